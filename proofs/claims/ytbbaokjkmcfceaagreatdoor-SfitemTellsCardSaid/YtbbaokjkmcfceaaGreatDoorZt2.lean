/- The law SfitemTells: contracts, words and plain lemmas that its proof reaches, part 2. Its conditions: the row's own. -/
import Derived.Test.YtbbaokjkmcfceaaGreatDoorZt1
namespace Go.Proofs.YtbbaokjkmcfceaaGreatDoor.Q
open Go.RowKit Go.Proofs.YtbbaokjkmcfceaaGreatDoorW.PrintWords Go.Proofs.YtbbaokjkmcfceaaGreatDoorW.PrintLast Go.Proofs.YtbbaokjkmcfceaaGreatDoorW.PrintMore
set_option linter.unusedVariables false
set_option linter.unusedSimpArgs false
open Go.Proofs.YtbbaokjkmcfceaaGreatDoor.Sf
theorem itoa_size (n : Int) (h0 : -9223372036854775808 ≤ n) (h1 : n ≤ 9223372036854775807) : (itoaBA n).size ≤ 21 := by
  have := Lib.itoa_length_le n h0 h1
  unfold itoaBA
  simpa [ByteArray.size] using this
theorem itoa_at (i : Int) (hi : -999999999999999 ≤ i ∧ i ≤ 999999999999999) (W : World) (hT : Aside0 (TabW W)) : Calls Tryz.prog 44 #[.int .i64 i] W fun e w' => e = .returned (.string (itoaBA i)) ∧ Below W.heap.size W w' :=
  strconv_Itoa.calls i (itoaBA i) W hT (if_pos ⟨by omega, by omega⟩)
theorem decDigits_pos (u : Nat) : 0 < (Lib.decDigits u).length := by
  rw [Lib.decDigits]
  split
  · simp
  · simp
theorem itoa_pos (n : Int) : 0 < (itoaBA n).size := by
  have : 0 < (Lib.itoa n).length := by
    unfold Lib.itoa
    split
    · simp
    · exact decDigits_pos _
  unfold itoaBA
  rw [Lib.size_eq]
  exact this
/-- A parameter in a box of its own: its cells, in whatever world comes behind. -/
theorem PB_held {W : World} {b : Nat} {k t : ByteArray} {n i : Int} (h : PB W b k n i t) : Aside0 (∀ W', Below W.heap.size W W' → W'.cell? ⟨b, 2, none⟩ = some (.int .i64 i) ∧ W'.cell? ⟨b, 3, none⟩ = some (.string t)) :=
  ⟨fun W' hb => ⟨(show PB W' b k n i t from blk_below h hb).c2, (show PB W' b k n i t from blk_below h hb).c3⟩⟩
theorem PB_new4 (W : World) (k : ByteArray) (n i : Int) (t : ByteArray) : PB (W.alloc (.cells #[.string k, .int .i64 n, .int .i64 i, .string t] 43)) W.heap.size k n i t := by
  have := blk_new W (.cells #[.string k, .int .i64 n, .int .i64 i, .string t] 43); simpa [PB] using this
set_option maxHeartbeats 8000000 in
set_option maxRecDepth 100000 in
theorem value_low (k t : ByteArray) (i : Int) (w : World) (n : Int) (hi : i < -999999999999999) :
    Calls Tryz.prog 24 #[.agg #[.string k, .int .i64 n, .int .i64 i, .string t]] w fun e w' => e = .returned (.tuple #[.string ⟨#[]⟩, .bool false]) ∧ Below w.heap.size w w' := by
  have hu43 := Tryz.underlying43
  have hP : PB (w.alloc (.cells #[.string k, .int .i64 n, .int .i64 i, .string t] 43)) w.heap.size k n i t := PB_new4 _ _ _ _ _
  have hB := below_alloc (Below.refl w.heap.size w) (.cells #[.string k, .int .i64 n, .int .i64 i, .string t] 43)
  have d1 : decide (i < -999999999999999) = true := decide_eq_true hi
  go_enter Tryz.func24, Tryz.ntmps24
  have c1 := hP.c1
  have c2 := hP.c2
  have c3 := hP.c3
  have HB := Aside0.mk hB
  have HP := Aside0.mk hP
  clear hP hB
  go_wp2
  go_ret2
  exact ⟨rfl, HB.out⟩
set_option maxHeartbeats 8000000 in
set_option maxRecDepth 100000 in
theorem value_high (k t : ByteArray) (i : Int) (w : World) (n : Int) (hi0 : ¬ i < -999999999999999) (hi : 999999999999999 < i) :
    Calls Tryz.prog 24 #[.agg #[.string k, .int .i64 n, .int .i64 i, .string t]] w fun e w' => e = .returned (.tuple #[.string ⟨#[]⟩, .bool false]) ∧ Below w.heap.size w w' := by
  have hu43 := Tryz.underlying43
  have hP : PB (w.alloc (.cells #[.string k, .int .i64 n, .int .i64 i, .string t] 43)) w.heap.size k n i t := PB_new4 _ _ _ _ _
  have hB := below_alloc (Below.refl w.heap.size w) (.cells #[.string k, .int .i64 n, .int .i64 i, .string t] 43)
  have d1 : decide (i < -999999999999999) = false := decide_eq_false hi0
  have d2 : decide (999999999999999 < i) = true := decide_eq_true hi
  go_enter Tryz.func24, Tryz.ntmps24
  have c1 := hP.c1
  have c2 := hP.c2
  have c3 := hP.c3
  have HB := Aside0.mk hB
  have HP := Aside0.mk hP
  clear hP hB
  go_wp2
  go_ret2
  exact ⟨rfl, HB.out⟩
set_option maxHeartbeats 8000000 in
set_option maxRecDepth 100000 in
theorem value_none (k t : ByteArray) (i : Int) (w : World) (n : Int) (hi : -999999999999999 ≤ i ∧ i ≤ 999999999999999) (hn : n ≠ 1 ∧ n ≠ 2 ∧ n ≠ 6 ∧ n ≠ 3 ∧ n ≠ 4 ∧ n ≠ 5) :
    Calls Tryz.prog 24 #[.agg #[.string k, .int .i64 n, .int .i64 i, .string t]] w fun e w' => e = .returned (.tuple #[.string ⟨#[]⟩, .bool false]) ∧ Below w.heap.size w w' := by
  have hu43 := Tryz.underlying43
  have hP : PB (w.alloc (.cells #[.string k, .int .i64 n, .int .i64 i, .string t] 43)) w.heap.size k n i t := PB_new4 _ _ _ _ _
  have hB := below_alloc (Below.refl w.heap.size w) (.cells #[.string k, .int .i64 n, .int .i64 i, .string t] 43)
  have d1 : decide (i < -999999999999999) = false := decide_eq_false (by omega)
  have d2 : decide (999999999999999 < i) = false := decide_eq_false (by omega)
  have e1 : (n == 1) = false := by simp [hn.1]
  have e2 : (n == 2) = false := by simp [hn.2.1]
  have e6 : (n == 6) = false := by simp [hn.2.2.1]
  have e3 : (n == 3) = false := by simp [hn.2.2.2.1]
  have e4 : (n == 4) = false := by simp [hn.2.2.2.2.1]
  have e5 : (n == 5) = false := by simp [hn.2.2.2.2.2]
  clear hn hi
  go_enter Tryz.func24, Tryz.ntmps24
  have c1 := hP.c1
  have c2 := hP.c2
  have c3 := hP.c3
  have HB := Aside0.mk hB
  have HP := Aside0.mk hP
  clear hP hB
  go_wp2
  go_ret2
  exact ⟨rfl, HB.out⟩
set_option maxHeartbeats 8000000 in
set_option maxRecDepth 100000 in
theorem value_int (k t : ByteArray) (i : Int) (w : World) (hT : Aside0 (TabW w)) (hi : -999999999999999 ≤ i ∧ i ≤ 999999999999999) :
    Calls Tryz.prog 24 #[.agg #[.string k, .int .i64 1, .int .i64 i, .string t]] w fun e w' => e = .returned (.tuple #[.string (itoaBA i), .bool t.toList.isEmpty]) ∧ Below w.heap.size w w' := by
  have hu43 := Tryz.underlying43
  have hP : PB (w.alloc (.cells #[.string k, .int .i64 1, .int .i64 i, .string t] 43)) w.heap.size k 1 i t := PB_new4 _ _ _ _ _
  have hB := below_alloc (Below.refl w.heap.size w) (.cells #[.string k, .int .i64 1, .int .i64 i, .string t] 43)
  have d1 : decide (i < -999999999999999) = false := decide_eq_false (by omega)
  have d2 : decide (999999999999999 < i) = false := decide_eq_false (by omega)
  have hIt := Aside0.mk (fun W (hb : Below w.heap.size w W) => itoa_at i hi W (tab_ hT hb))
  clear hi hT
  go_enter Tryz.func24, Tryz.ntmps24
  have c1 := hP.c1
  have c2 := hP.c2
  have c3 := hP.c3
  have HB := Aside0.mk hB
  have HP := Aside0.mk hP
  clear hP hB
  go_upto_region 5 with (fail)
  have hK : ∀ W', Below (w.alloc (.cells #[.string k, .int .i64 1, .int .i64 i, .string t] 43)).heap.size (w.alloc (.cells #[.string k, .int .i64 1, .int .i64 i, .string t] 43)) W' → W'.cell? ⟨w.heap.size, 2, none⟩ = some (.int .i64 i) ∧ W'.cell? ⟨w.heap.size, 3, none⟩ = some (.string t) := (PB_held HP.out).out
  have K := Aside0.mk hK
  clear hK HP c1
  generalize w.alloc (.cells #[.string k, .int .i64 1, .int .i64 i, .string t] 43) = w1 at *
  go_region_held3 (fun w' => w'.cell? ⟨w.heap.size, 2, none⟩ = some (.int .i64 i) ∧ w'.cell? ⟨w.heap.size, 3, none⟩ = some (.string t)) (first | exact K.out _ (below_drew (Below.refl _ _)) | exact K.out _ (Below.refl _ _) | exact K.out _ (by assumption)) (first | (go_at_call 44; ((with_reducible refine (hIt.out _ ?_).mono ?_); (first | exact HB.out | exact below_drew1 HB.out); rintro e w3 ⟨rfl, hb3⟩; have hb4 := below_then (below_drew (Below.refl w1.heap.size w1)) (Nat.le_refl _) hb3; clear hb3)))
  go_wp2
  go_ret2
  exact ⟨rfl, below_then HB.out HB.out.size hb4⟩
set_option maxHeartbeats 8000000 in
set_option maxRecDepth 100000 in
theorem value_boolE (k t : ByteArray) (i : Int) (w : World) (hT : Aside0 (TabW w)) (hi : -999999999999999 ≤ i ∧ i ≤ 999999999999999) (ht : (t.toList == ([] : List UInt8)) = true) :
    Calls Tryz.prog 24 #[.agg #[.string k, .int .i64 6, .int .i64 i, .string t]] w fun e w' => e = .returned (.tuple #[.string ((⟨#[63]⟩ : ByteArray) ++ itoaBA i), .bool (Go.bits .andNot .i64 i 1 == 0)]) ∧ Below w.heap.size w w' := by
  have hu43 := Tryz.underlying43
  have hP : PB (w.alloc (.cells #[.string k, .int .i64 6, .int .i64 i, .string t] 43)) w.heap.size k 6 i t := PB_new4 _ _ _ _ _
  have hB := below_alloc (Below.refl w.heap.size w) (.cells #[.string k, .int .i64 6, .int .i64 i, .string t] 43)
  have d1 : decide (i < -999999999999999) = false := decide_eq_false (by omega)
  have d2 : decide (999999999999999 < i) = false := decide_eq_false (by omega)
  have hIt := Aside0.mk (fun W (hb : Below w.heap.size w W) => itoa_at i hi W (tab_ hT hb))
  have hz := itoa_size i (by omega) (by omega)
  have z1 : (9223372036854775807 < 1 + (itoaBA i).size) = False := eq_false (by omega)
  have z1b : (1 + (itoaBA i).size ≤ 9223372036854775807) = True := eq_true (by omega)
  clear hi hT hz
  go_enter Tryz.func24, Tryz.ntmps24
  have c1 := hP.c1
  have c2 := hP.c2
  have c3 := hP.c3
  have HB := Aside0.mk hB
  have HP := Aside0.mk hP
  clear hP hB
  go_upto_region 15 with (fail)
  have hK : ∀ W', Below (w.alloc (.cells #[.string k, .int .i64 6, .int .i64 i, .string t] 43)).heap.size (w.alloc (.cells #[.string k, .int .i64 6, .int .i64 i, .string t] 43)) W' → W'.cell? ⟨w.heap.size, 2, none⟩ = some (.int .i64 i) ∧ W'.cell? ⟨w.heap.size, 3, none⟩ = some (.string t) := (PB_held HP.out).out
  have K := Aside0.mk hK
  clear hK HP c1
  generalize w.alloc (.cells #[.string k, .int .i64 6, .int .i64 i, .string t] 43) = w1 at *
  go_region_held3 (fun w' => w'.cell? ⟨w.heap.size, 2, none⟩ = some (.int .i64 i) ∧ w'.cell? ⟨w.heap.size, 3, none⟩ = some (.string t)) (first | exact K.out _ (below_drew (Below.refl _ _)) | exact K.out _ (Below.refl _ _) | exact K.out _ (by assumption)) (first | (go_at_call 44; ((with_reducible refine (hIt.out _ ?_).mono ?_); (first | exact HB.out | exact below_drew1 HB.out); rintro e w3 ⟨rfl, hb3⟩; have hb4 := below_then (below_drew (Below.refl w1.heap.size w1)) (Nat.le_refl _) hb3; clear hb3)))
  go_wp2
  go_ret2
  exact ⟨rfl, below_then HB.out HB.out.size hb4⟩
def tailZ (n : Int) : ByteArray := trimZ ((itoaBA (1000 + Int.tmod n 1000)).extract 1 (itoaBA (1000 + Int.tmod n 1000)).size)
def fracB (n : Int) : ByteArray := if 0 < (tailZ n).size then tailZ n else ⟨#[48]⟩
def magn (i : Int) : Int := if i < 0 then -i else i
def signB (i : Int) : ByteArray := if i < 0 then ⟨#[45]⟩ else ⟨#[]⟩
def decB (i : Int) : ByteArray := ((signB i ++ itoaBA (Int.tdiv (magn i) 1000)) ++ (⟨#[46]⟩ : ByteArray)) ++ fracB (magn i)
theorem trimZ_size (s : ByteArray) : (trimZ s).size ≤ s.size := by
  have : (Lib.trimRightB s.data.toList 48).length ≤ s.data.toList.length := by
    unfold Lib.trimRightB
    rw [List.length_reverse]
    exact Nat.le_trans (List.dropWhile_sublist _).length_le (by rw [List.length_reverse]; exact Nat.le_refl _)
  unfold trimZ
  rw [Lib.size_eq, Lib.size_eq s]
  exact this
set_option maxHeartbeats 8000000 in
set_option maxRecDepth 100000 in
theorem value_dec (k t : ByteArray) (i : Int) (w : World) (hT : Aside0 (TabW w)) (hi : -999999999999999 ≤ i ∧ i ≤ 999999999999999) :
    Calls Tryz.prog 24 #[.agg #[.string k, .int .i64 2, .int .i64 i, .string t]] w fun e w' => e = .returned (.tuple #[.string (decB i), .bool t.toList.isEmpty]) ∧ Below w.heap.size w w' := by
  have hu43 := Tryz.underlying43
  have hP : PB (w.alloc (.cells #[.string k, .int .i64 2, .int .i64 i, .string t] 43)) w.heap.size k 2 i t := PB_new4 _ _ _ _ _
  have hB := below_alloc (Below.refl w.heap.size w) (.cells #[.string k, .int .i64 2, .int .i64 i, .string t] 43)
  have d1 : decide (i < -999999999999999) = false := decide_eq_false (by omega)
  have d2 : decide (999999999999999 < i) = false := decide_eq_false (by omega)
  have hm0 : 0 ≤ magn i ∧ magn i ≤ 999999999999999 := by unfold magn; split <;> omega
  have hIt := Aside0.mk (fun W (hb : Below w.heap.size w W) => itoa_at (1000 + Int.tmod (magn i) 1000) (by have := Int.tmod_nonneg 1000 hm0.1; have := Int.tmod_lt_of_pos (magn i) (show (0 : Int) < 1000 by decide); omega) W (tab_ hT hb))
  have hId := Aside0.mk (fun W (hb : Below w.heap.size w W) => itoa_at (Int.tdiv (magn i) 1000) (by rw [Int.tdiv_eq_ediv_of_nonneg hm0.1]; omega) W (tab_ hT hb))
  have hz0 : 1000 ≤ 1000 + Int.tmod (magn i) 1000 ∧ 1000 + Int.tmod (magn i) 1000 ≤ 1999 := by have := Int.tmod_nonneg 1000 hm0.1; have := Int.tmod_lt_of_pos (magn i) (show (0 : Int) < 1000 by decide); omega
  have hw1 := Aside0.mk (IntWalk.wrap64_in (1000 + Int.tmod (magn i) 1000) ⟨by omega, by omega⟩)
  have hw2 := Aside0.mk (IntWalk.wrap64_in (Int.tdiv (magn i) 1000) (by rw [Int.tdiv_eq_ediv_of_nonneg hm0.1]; constructor <;> omega))
  have hw3 := Aside0.mk (IntWalk.wrap64_in (-i) ⟨by omega, by omega⟩)
  have hs1 := Aside0.mk (itoa_size (1000 + Int.tmod (magn i) 1000) (by omega) (by omega))
  have hs2 := Aside0.mk (itoa_size (Int.tdiv (magn i) 1000) (by rw [Int.tdiv_eq_ediv_of_nonneg hm0.1]; omega) (by rw [Int.tdiv_eq_ediv_of_nonneg hm0.1]; omega))
  clear hT hi hm0 hz0
  go_enter Tryz.func24, Tryz.ntmps24
  have c1 := hP.c1
  have c2 := hP.c2
  have c3 := hP.c3
  have HB := Aside0.mk hB
  have HP := Aside0.mk hP
  clear hP hB
  go_upto_if 34 with (fail)
  have hK : ∀ W', Below (w.alloc (.cells #[.string k, .int .i64 2, .int .i64 i, .string t] 43)).heap.size (w.alloc (.cells #[.string k, .int .i64 2, .int .i64 i, .string t] 43)) W' → W'.cell? ⟨w.heap.size, 2, none⟩ = some (.int .i64 i) ∧ W'.cell? ⟨w.heap.size, 3, none⟩ = some (.string t) := (PB_held HP.out).out
  have K := Aside0.mk hK
  clear hK HP c1 c2 c3
  generalize w.alloc (.cells #[.string k, .int .i64 2, .int .i64 i, .string t] 43) = w1 at *
  go_cut [4, 5] (fun v4 v5 wc => v4 = .int .i64 (magn i) ∧ v5 = .string (signB i) ∧ wc = w1)
  case first =>
    by_cases hn : i < 0
    · have e1 : magn i = -i := if_pos hn
      have e2 : signB i = ⟨#[45]⟩ := if_pos hn
      have hd : decide (i < 0) = true := decide_eq_true hn
      have hw := hw3.out
      clear hn
      rw [hd]
      go_wp2
      go_meet
      case rel => exact ⟨by rw [e1] <;> first | rfl | simp [hw3.out], by rw [e2] <;> rfl, rfl⟩
    · have e1 : magn i = i := if_neg hn
      have e2 : signB i = ⟨#[]⟩ := if_neg hn
      have hd : decide (i < 0) = false := decide_eq_false hn
      clear hn
      rw [hd]
      go_wp2
      go_meet
      case rel => exact ⟨by rw [e1] <;> first | rfl | simp [hw3.out], by rw [e2] <;> rfl, rfl⟩
  case rest =>
    obtain ⟨rfl, rfl, rfl⟩ := hcut
    have hw1' := hw1.out
    have hp1 := itoa_pos (1000 + Int.tmod (magn i) 1000)
    have q1 : (1 ≤ ((itoaBA (1000 + Int.tmod (magn i) 1000)).size : Int)) = True := eq_true (by omega)
    have q1b : (1 ≤ (itoaBA (1000 + Int.tmod (magn i) 1000)).size) = True := eq_true (by omega)
    have htr0 : ∀ W, Calls Tryz.prog 45 #[.string ((itoaBA (1000 + Int.tmod (magn i) 1000)).extract 1 (itoaBA (1000 + Int.tmod (magn i) 1000)).size), .string ⟨#[48]⟩] W fun e w' => e = .returned (.string (tailZ (magn i))) ∧ w' = W := fun W => Tryz.strings_TrimRight_one ((itoaBA (1000 + Int.tmod (magn i) 1000)).extract 1 (itoaBA (1000 + Int.tmod (magn i) 1000)).size) 48 (by decide) W (by rw [ByteArray.size_extract]; have := hs1.out; omega)
    have hF : fracB (magn i) = if 0 < (tailZ (magn i)).size then tailZ (magn i) else ⟨#[48]⟩ := rfl
    have htz : (tailZ (magn i)).size ≤ 21 := by
      unfold tailZ
      refine Nat.le_trans (trimZ_size _) ?_
      rw [ByteArray.size_extract]; have := hs1.out; omega
    have HE : decB i = ((signB i ++ itoaBA (Int.tdiv (magn i) 1000)) ++ (⟨#[46]⟩ : ByteArray)) ++ fracB (magn i) := rfl
    have hsg : (signB i).size ≤ 1 := by unfold signB; split <;> decide
    generalize tailZ (magn i) = tz at *
    generalize fracB (magn i) = fz at *
    generalize signB i = sz at *
    have htr := Aside0.mk htr0
    have HF := Aside0.mk hF
    have HZ := Aside0.mk htz
    have HS := Aside0.mk hsg
    have HD := Aside0.mk HE
    clear htz hp1 hs1 hF htr0 hsg HE
    go_upto_if 44 with (first | (go_at_call 45; refine (htr.out _).mono ?_; rintro e w5 ⟨rfl, rfl⟩) | (go_at_call 44; refine (hIt.out _ HB.out).mono ?_; rintro e w4 ⟨rfl, hb4⟩))
    have hw2' := hw2.out
    have HB5 := Aside0.mk (below_then HB.out HB.out.size hb4)
    have K5 := Aside0.mk (fun W' (hb : Below w5.heap.size w5 W') => K.out W' (below_then hb4 hb4.size hb))
    clear hb4 htr hIt q1 q1b hw1'
    generalize itoaBA (1000 + Int.tmod (magn i) 1000) = x1 at *
    go_cut [6] (fun v6 wc => v6 = .string fz ∧ wc = w5)
    case first =>
      by_cases h0 : 0 < tz.size
      · have e1 : fz = tz := HF.out.trans (if_pos h0)
        have n1 : tz.toList.isEmpty = false := by have := (nonempty_ne tz h0).1; simpa using this
        clear h0 HF
        (first | rw [n1] | skip)
        go_wp2
        go_meet
        case rel => exact ⟨by rw [e1] <;> rfl, rfl⟩
      · have e1 : fz = ⟨#[48]⟩ := HF.out.trans (if_neg h0)
        have n1 : tz.toList.isEmpty = true := by have := (empty_eq tz h0).1; simpa using this
        clear h0 HF
        (first | rw [n1] | skip)
        go_wp2
        go_meet
        case rel => exact ⟨by rw [e1] <;> rfl, rfl⟩
    case rest =>
      obtain ⟨rfl, rfl⟩ := hcut
      have hfz : fz.size ≤ 21 := by
        rw [HF.out]
        split
        · exact HZ.out
        · decide
      have hId' := hId.out
      have hy := hs2.out
      have hs := HS.out
      generalize itoaBA (Int.tdiv (magn i) 1000) = y1 at *
      have z1 : (9223372036854775807 < sz.size + y1.size) = False := eq_false (by omega)
      have z1b : (sz.size + y1.size ≤ 9223372036854775807) = True := eq_true (by omega)
      have z2 : (9223372036854775807 < sz.size + y1.size + 1) = False := eq_false (by omega)
      have z2b : (sz.size + y1.size + 1 ≤ 9223372036854775807) = True := eq_true (by omega)
      have z3 : (9223372036854775807 < sz.size + y1.size + 1 + fz.size) = False := eq_false (by omega)
      have z3b : (sz.size + y1.size + 1 + fz.size ≤ 9223372036854775807) = True := eq_true (by omega)
      have HI := Aside0.mk hId'
      clear hId hId' hfz hy hs HF HZ HS hs2
      have HW := Aside0.mk HB
      obtain ⟨k2, k3⟩ := K5.out _ (Below.refl _ _)
      go_upto_region 13 with (fail)
      go_region_held3 (fun w' => w'.cell? ⟨w.heap.size, 2, none⟩ = some (.int .i64 i) ∧ w'.cell? ⟨w.heap.size, 3, none⟩ = some (.string t)) (first | exact K5.out _ (below_drew (Below.refl _ _)) | exact K5.out _ (Below.refl _ _) | exact K5.out _ (by assumption)) (first | (go_at_call 44; (try rw [i64_w]); (try rw [hw2.out]); ((with_reducible refine (HI.out _ ?_).mono ?_); (first | exact HB5.out | exact below_drew1 HB5.out); rintro e w6 ⟨rfl, hb6⟩; have hb7 := below_then (below_drew (Below.refl wc.heap.size wc)) (Nat.le_refl _) hb6; clear hb6)))
      go_wp2
      go_ret2
      exact ⟨by rw [HD.out]; rfl, below_then HB5.out HB5.out.size hb7⟩
set_option maxHeartbeats 8000000 in
set_option maxRecDepth 100000 in
theorem value_token (k t : ByteArray) (w : World) (b : Bool) (hb : sfitem_whole.f t 4 = some b) :
    Calls Tryz.prog 24 #[.agg #[.string k, .int .i64 4, .int .i64 0, .string t]] w fun e w' => e = .returned (.tuple #[.string t, .bool b]) ∧ Below w.heap.size w w' := by
  have hu43 := Tryz.underlying43
  have hP : PB (w.alloc (.cells #[.string k, .int .i64 4, .int .i64 0, .string t] 43)) w.heap.size k 4 0 t := PB_new4 _ _ _ _ _
  have hB := below_alloc (Below.refl w.heap.size w) (.cells #[.string k, .int .i64 4, .int .i64 0, .string t] 43)
  have d1 : decide ((0 : Int) < -999999999999999) = false := by decide
  have d2 : decide (999999999999999 < (0 : Int)) = false := by decide
  have hWh := Aside0.mk (fun W => sfitem_whole.calls t 4 b W hb)
  clear hb
  go_enter Tryz.func24, Tryz.ntmps24
  have c1 := hP.c1
  have c2 := hP.c2
  have c3 := hP.c3
  have HB := Aside0.mk hB
  have HP := Aside0.mk hP
  clear hP hB
  go_upto_region 29 with (fail)
  have hK : ∀ W', Below (w.alloc (.cells #[.string k, .int .i64 4, .int .i64 0, .string t] 43)).heap.size (w.alloc (.cells #[.string k, .int .i64 4, .int .i64 0, .string t] 43)) W' → W'.cell? ⟨w.heap.size, 2, none⟩ = some (.int .i64 0) ∧ W'.cell? ⟨w.heap.size, 3, none⟩ = some (.string t) := (PB_held HP.out).out
  have K := Aside0.mk hK
  clear hK HP c1
  generalize w.alloc (.cells #[.string k, .int .i64 4, .int .i64 0, .string t] 43) = w1 at *
  go_region_held3 (fun w' => w'.cell? ⟨w.heap.size, 2, none⟩ = some (.int .i64 0) ∧ w'.cell? ⟨w.heap.size, 3, none⟩ = some (.string t)) (first | exact K.out _ (below_drew (Below.refl _ _)) | exact K.out _ (Below.refl _ _) | exact K.out _ (by assumption)) (first | (go_at_call 47; ((with_reducible refine (hWh.out _).mono ?_); rintro e w3 ⟨rfl, hb3⟩; have hb4 := below_then (below_drew (Below.refl w1.heap.size w1)) (Nat.le_refl _) hb3; clear hb3)))
  go_wp2
  go_ret2
  exact ⟨rfl, below_then HB.out HB.out.size hb4⟩
set_option maxHeartbeats 8000000 in
set_option maxRecDepth 100000 in
theorem value_bytesZ (k t : ByteArray) (w : World) (b : Bool) (hz : t.size ≤ 2199023255540) (hb : sfitem_whole.f (((⟨#[58]⟩ : ByteArray) ++ t) ++ (⟨#[58]⟩ : ByteArray)) 5 = some b) :
    Calls Tryz.prog 24 #[.agg #[.string k, .int .i64 5, .int .i64 0, .string t]] w fun e w' => e = .returned (.tuple #[.string (((⟨#[58]⟩ : ByteArray) ++ t) ++ (⟨#[58]⟩ : ByteArray)), .bool b]) ∧ Below w.heap.size w w' := by
  have hu43 := Tryz.underlying43
  have hP : PB (w.alloc (.cells #[.string k, .int .i64 5, .int .i64 0, .string t] 43)) w.heap.size k 5 0 t := PB_new4 _ _ _ _ _
  have hB := below_alloc (Below.refl w.heap.size w) (.cells #[.string k, .int .i64 5, .int .i64 0, .string t] 43)
  have d1 : decide ((0 : Int) < -999999999999999) = false := by decide
  have d2 : decide (999999999999999 < (0 : Int)) = false := by decide
  have hWh := Aside0.mk (fun W => sfitem_whole.calls _ 5 b W hb)
  clear hb
  have z1 : (9223372036854775807 < 1 + t.size) = False := eq_false (by omega)
  have z1b : (1 + t.size ≤ 9223372036854775807) = True := eq_true (by omega)
  have z2 : (9223372036854775807 < 1 + t.size + 1) = False := eq_false (by omega)
  have z2b : (1 + t.size + 1 ≤ 9223372036854775807) = True := eq_true (by omega)
  clear hz
  go_enter Tryz.func24, Tryz.ntmps24
  have c1 := hP.c1
  have c2 := hP.c2
  have c3 := hP.c3
  have HB := Aside0.mk hB
  have HP := Aside0.mk hP
  clear hP hB
  go_wp2_with (first | (go_at_call 47; ((with_reducible refine (hWh.out _).mono ?_); rintro e w3 ⟨rfl, hb3⟩; skip)))
  go_ret2
  exact ⟨rfl, below_then HB.out HB.out.size hb3⟩
set_option maxHeartbeats 8000000 in
set_option maxRecDepth 100000 in
theorem value_bytesN (k t : ByteArray) (i : Int) (w : World) (hi : -999999999999999 ≤ i ∧ i ≤ 999999999999999) (hz : t.size ≤ 2199023255540) (hn : ¬ i = 0) :
    Calls Tryz.prog 24 #[.agg #[.string k, .int .i64 5, .int .i64 i, .string t]] w fun e w' => e = .returned (.tuple #[.string (((⟨#[58]⟩ : ByteArray) ++ t) ++ (⟨#[58]⟩ : ByteArray)), .bool false]) ∧ Below w.heap.size w w' := by
  have hu43 := Tryz.underlying43
  have hP : PB (w.alloc (.cells #[.string k, .int .i64 5, .int .i64 i, .string t] 43)) w.heap.size k 5 i t := PB_new4 _ _ _ _ _
  have hB := below_alloc (Below.refl w.heap.size w) (.cells #[.string k, .int .i64 5, .int .i64 i, .string t] 43)
  have d1 : decide (i < -999999999999999) = false := decide_eq_false (by omega)
  have d2 : decide (999999999999999 < i) = false := decide_eq_false (by omega)
  have d3 : (i == 0) = false := by simp [hn]
  clear hn hi
  have z1 : (9223372036854775807 < 1 + t.size) = False := eq_false (by omega)
  have z1b : (1 + t.size ≤ 9223372036854775807) = True := eq_true (by omega)
  have z2 : (9223372036854775807 < 1 + t.size + 1) = False := eq_false (by omega)
  have z2b : (1 + t.size + 1 ≤ 9223372036854775807) = True := eq_true (by omega)
  clear hz
  go_enter Tryz.func24, Tryz.ntmps24
  have c1 := hP.c1
  have c2 := hP.c2
  have c3 := hP.c3
  have HB := Aside0.mk hB
  have HP := Aside0.mk hP
  clear hP hB
  go_wp2
  go_ret2
  exact ⟨rfl, HB.out⟩
/-- A text in quotes, as far as k bytes: none: a byte that may not be. -/
def qOut (t : ByteArray) : Nat → Option ByteArray
  | 0 => some ⟨#[34]⟩
  | k + 1 => (qOut t k).bind fun o => if bt t k < 32 ∨ 126 < bt t k then none else some ((if wiP (bt t k) ⟨#[34, 92]⟩ = true then o ++ (⟨#[92]⟩ : ByteArray) else o) ++ strOfNums [bt t k])
theorem qOut_none (t : ByteArray) (k : Nat) (h : qOut t k = none) : ∀ n, k ≤ n → qOut t n = none := by
  intro n hn
  induction n with
  | zero => obtain rfl : k = 0 := by omega
            exact h
  | succ n ih =>
    by_cases hk : k = n + 1
    · rw [← hk]; exact h
    · rw [qOut, ih (by omega)]; rfl
theorem num_size (c : Int) : (strOfNums [c]).size = 1 := by unfold strOfNums; rfl
theorem qOut_size (t : ByteArray) : ∀ (k : Nat) (o : ByteArray), qOut t k = some o → o.size ≤ 1 + 2 * k := by
  intro k
  induction k with
  | zero => intro o h; rw [qOut] at h; obtain rfl := Option.some.inj h; exact Nat.le_refl _
  | succ k ih =>
    intro o h
    rw [qOut] at h
    obtain ⟨o', h1, h2⟩ := Option.bind_eq_some_iff.1 h
    have := ih o' h1
    by_cases c : bt t k < 32 ∨ 126 < bt t k
    · rw [if_pos c] at h2; cases h2
    · rw [if_neg c] at h2
      have h2 := Option.some.inj h2
      rw [← h2, ByteArray.size_append, num_size]
      by_cases c2 : wiP (bt t k) ⟨#[34, 92]⟩ = true
      · rw [if_pos c2, ByteArray.size_append]
        have : (⟨#[92]⟩ : ByteArray).size = 1 := rfl
        omega
      · rw [if_neg c2]; omega
theorem bt_nat2 (s : ByteArray) (j : Nat) : bt s (j : Int) = ((s.data.toList.getD j 0).toNat : Int) := by
  unfold bt
  split
  · rename_i h
    have h' : j < s.data.toList.length := by rw [data_length]; simpa using h
    simp [List.getD_eq_getElem?_getD, List.getElem?_eq_getElem h']
    rfl
  · rename_i h
    have h' : s.data.toList.length ≤ j := by rw [data_length]; simp at h; omega
    simp [List.getD_eq_getElem?_getD, List.getElem?_eq_none h']
def textF (i : Int) (t : ByteArray) : ByteArray × Bool := match qOut t t.size with | some o => (o ++ (⟨#[34]⟩ : ByteArray), i == 0) | none => (⟨#[]⟩, false)
set_option maxHeartbeats 8000000 in
set_option maxRecDepth 100000 in
theorem value_text (k t : ByteArray) (i : Int) (w : World) (hi : -999999999999999 ≤ i ∧ i ≤ 999999999999999) (hz : t.size ≤ 2199023255552) :
    Calls Tryz.prog 24 #[.agg #[.string k, .int .i64 3, .int .i64 i, .string t]] w fun e w' => e = .returned (.tuple #[.string (textF i t).1, .bool (textF i t).2]) ∧ Below w.heap.size w w' := by
  have hu43 := Tryz.underlying43
  have hP : PB (w.alloc (.cells #[.string k, .int .i64 3, .int .i64 i, .string t] 43)) w.heap.size k 3 i t := PB_new4 _ _ _ _ _
  have hB := below_alloc (Below.refl w.heap.size w) (.cells #[.string k, .int .i64 3, .int .i64 i, .string t] 43)
  have d1 : decide (i < -999999999999999) = false := decide_eq_false (by omega)
  have d2 : decide (999999999999999 < i) = false := decide_eq_false (by omega)
  clear hi
  go_enter Tryz.func24, Tryz.ntmps24
  have c1 := hP.c1
  have c2 := hP.c2
  have c3 := hP.c3
  have HB := Aside0.mk hB
  have HP := Aside0.mk hP
  clear hP hB
  go_upto_region 18 with (fail)
  have hK : ∀ W', Below (w.alloc (.cells #[.string k, .int .i64 3, .int .i64 i, .string t] 43)).heap.size (w.alloc (.cells #[.string k, .int .i64 3, .int .i64 i, .string t] 43)) W' → W'.cell? ⟨w.heap.size, 2, none⟩ = some (.int .i64 i) ∧ W'.cell? ⟨w.heap.size, 3, none⟩ = some (.string t) := (PB_held HP.out).out
  have K := Aside0.mk hK
  clear hK HP c1 c2
  generalize w.alloc (.cells #[.string k, .int .i64 3, .int .i64 i, .string t] 43) = w1 at *
  have kb := fun W => print_bytes (P := Tryz.prog) 9 69 5 Tryz.underlying9 Tryz.underlying69 Tryz.underlying5 t W
  have hC : ∀ j : Nat, j < t.size → (Lib.bytesWorld w1 5 t).cell? ⟨w1.heap.size, j, none⟩ = some (.int .u8 (bt t j)) := fun j hj => by rw [Lib.bytesWorld_cell w1 5 t j hj, bt_nat2]
  have hB2 : Below w.heap.size w (Lib.bytesWorld w1 5 t) := bytes_below HB.out HB.out.size _ _
  have hK2 := Aside0.mk (fun W' (hb : Below (Lib.bytesWorld w1 5 t).heap.size (Lib.bytesWorld w1 5 t) W') => K.out W' (below_then (bytes_below (Below.refl _ _) (Nat.le_refl _) _ _) (bytes_below (Below.refl w1.heap.size w1) (Nat.le_refl _) 5 t).size hb))
  have HC := Aside0.mk hC
  have HB2 := Aside0.mk hB2
  clear hC hB2 K HB
  go_wp2
  generalize grownCap w1 t.size 0 5 = cap
  generalize Lib.bytesWorld w1 5 t = W2 at *
  generalize w1.heap.size = gb at *
  clear kb c3
  have hcv : ∀ (c : Int) (W : World), (convert 69 9 (.slice (some ⟨W.heap.size, 0, none⟩) 1 1)).run Tryz.prog (W.alloc (.cells #[.int .u8 c] 5)) = .ok (.string (strOfNums [c])) (W.alloc (.cells #[.int .u8 c] 5)) := fun c W => by
    refine run_convert_bytes_arg _ 69 5 Tryz.underlying69 Tryz.underlying5 W.heap.size 0 1 1 [c] rfl (fun j hj => ?_) 9 Tryz.underlying9
    obtain rfl : j = 0 := by omega
    exact (blk_cell (by have := blk_new W (.cells #[.int .u8 c] 5); simpa using this) 0).trans rfl
  go_loopw [7, 9, 77] (fun v7 v9 v77 wr => ∃ (k : Nat) (o : ByteArray), k ≤ t.size ∧ v77 = .int .i64 k ∧ v7 = .string o ∧ Aside0 (qOut t k = some o) ∧ Aside0 (Below W2.heap.size W2 wr)) (fun _ _ v77 _ => t.size - (intOf v77).toNat)
  case atStart => exact ⟨0, _, Nat.zero_le _, rfl, rfl, ⟨rfl⟩, ⟨Below.refl _ _⟩⟩
  case round =>
    obtain ⟨n, o, hn, rfl, rfl, HQ, HBr⟩ := hrel
    by_cases hlt : n < t.size
    · have hcell : wr.cell? ⟨gb, n, none⟩ = some (.int .u8 (bt t n)) := pw_cell_below HBr.out (HC.out n hlt)
      have p1 : (0 ≤ (n : Int)) = True := eq_true (by omega)
      have p2 : ((n : Int) < (t.size : Int)) = True := eq_true (by omega)
      have hltd : decide ((n : Int) < (t.size : Int)) = true := decide_eq_true (by omega)
      have hos := qOut_size t n o HQ.out
      have hq1 : qOut t (n + 1) = if bt t n < 32 ∨ 126 < bt t n then none else some ((if wiP (bt t n) ⟨#[34, 92]⟩ = true then o ++ (⟨#[92]⟩ : ByteArray) else o) ++ strOfNums [bt t n]) := by rw [qOut, HQ.out]; rfl
      have hwi := fun W => asks_within (bt t n) ⟨#[34, 92]⟩ W
      by_cases e1 : bt t n < 32
      · rw [if_pos (Or.inl e1)] at hq1
        have HT2 : Aside0 (textF i t = (⟨#[]⟩, false)) := ⟨by unfold textF; rw [qOut_none t (n + 1) hq1 t.size (by omega)]⟩
        have f1 : decide (bt t n < 32) = true := decide_eq_true e1
        clear hq1 e1 hwi HQ
        generalize bt t n = c at *
        go_wp2
        go_ret2
        exact ⟨by rw [HT2.out]; rfl, below_then HB2.out HB2.out.size HBr.out⟩
      · by_cases e2 : 126 < bt t n
        · rw [if_pos (Or.inr e2)] at hq1
          have HT2 : Aside0 (textF i t = (⟨#[]⟩, false)) := ⟨by unfold textF; rw [qOut_none t (n + 1) hq1 t.size (by omega)]⟩
          have f1 : decide (bt t n < 32) = false := decide_eq_false e1
          have f2 : decide (126 < bt t n) = true := decide_eq_true e2
          clear hq1 e1 e2 hwi HQ
          generalize bt t n = c at *
          go_wp2
          go_ret2
          exact ⟨by rw [HT2.out]; rfl, below_then HB2.out HB2.out.size HBr.out⟩
        · rw [if_neg (fun h => h.elim e1 e2)] at hq1
          have f1 : decide (bt t n < 32) = false := decide_eq_false e1
          have f2 : decide (126 < bt t n) = false := decide_eq_false e2
          have hns := num_size (bt t n)
          cases e5 : wiP (bt t n) ⟨#[34, 92]⟩ with
          | true =>
            rw [e5] at hq1 hwi
            have HQ1 : Aside0 (qOut t (n + 1) = some ((o ++ (⟨#[92]⟩ : ByteArray)) ++ strOfNums [bt t n])) := ⟨hq1⟩
            have z1 : (9223372036854775807 < o.size + 1) = False := eq_false (by omega)
            have z1b : (o.size + 1 ≤ 9223372036854775807) = True := eq_true (by omega)
            have z2 : (9223372036854775807 < o.size + 1 + (strOfNums [bt t n]).size) = False := eq_false (by omega)
            have z2b : (o.size + 1 + (strOfNums [bt t n]).size ≤ 9223372036854775807) = True := eq_true (by omega)
            have hcv' : ∀ q : Nat, (convert 69 9 (.slice (some ⟨wr.heap.size, 0, none⟩) 1 1)).run Tryz.prog ((wr.drewN q).alloc (.cells #[.int .u8 (bt t n)] 5)) = .ok (.string (strOfNums [bt t n])) ((wr.drewN q).alloc (.cells #[.int .u8 (bt t n)] 5)) := fun q => hcv (bt t n) (wr.drewN q)
            clear hq1 e1 e2 e5 HQ hns hos
            generalize bt t n = c at *
            generalize strOfNums [c] = sc at *
            go_wp2_with (first | (go_at_call 46; refine (hwi _).mono ?_; rintro e w' ⟨rfl, ⟨q, rfl⟩⟩))
            go_roundw
            case rel => exact ⟨n + 1, _, by omega, by go_num, rfl, HQ1, ⟨below_alloc (pw_below_drewN HBr.out _) _⟩⟩
            case measure => simp [intOf]; omega
          | false =>
            rw [e5] at hq1 hwi
            have HQ1 : Aside0 (qOut t (n + 1) = some (o ++ strOfNums [bt t n])) := ⟨hq1⟩
            have z2 : (9223372036854775807 < o.size + (strOfNums [bt t n]).size) = False := eq_false (by omega)
            have z2b : (o.size + (strOfNums [bt t n]).size ≤ 9223372036854775807) = True := eq_true (by omega)
            have hcv' : ∀ q : Nat, (convert 69 9 (.slice (some ⟨wr.heap.size, 0, none⟩) 1 1)).run Tryz.prog ((wr.drewN q).alloc (.cells #[.int .u8 (bt t n)] 5)) = .ok (.string (strOfNums [bt t n])) ((wr.drewN q).alloc (.cells #[.int .u8 (bt t n)] 5)) := fun q => hcv (bt t n) (wr.drewN q)
            clear hq1 e1 e2 e5 HQ hns hos
            generalize bt t n = c at *
            generalize strOfNums [c] = sc at *
            go_wp2_with (first | (go_at_call 46; refine (hwi _).mono ?_; rintro e w' ⟨rfl, ⟨q, rfl⟩⟩))
            go_roundw
            case rel => exact ⟨n + 1, _, by omega, by go_num, rfl, HQ1, ⟨below_alloc (pw_below_drewN HBr.out _) _⟩⟩
            case measure => simp [intOf]; omega
    · obtain rfl : n = t.size := by omega
      have hltd : decide ((t.size : Int) < (t.size : Int)) = false := decide_eq_false (by omega)
      have HT2 : Aside0 (textF i t = (o ++ (⟨#[34]⟩ : ByteArray), i == 0)) := ⟨by unfold textF; rw [HQ.out]⟩
      have hos := qOut_size t _ o HQ.out
      have z1 : (9223372036854775807 < o.size + 1) = False := eq_false (by omega)
      have z1b : (o.size + 1 ≤ 9223372036854775807) = True := eq_true (by omega)
      obtain ⟨k2, k3⟩ := hK2.out _ HBr.out
      clear hos HQ
      go_upto_region 27 with (fail)
      go_region
      all_goals (go_wp2; go_ret2; exact ⟨by rw [HT2.out]; rfl, below_drew1 (below_then HB2.out HB2.out.size HBr.out)⟩)
set_option maxHeartbeats 4000000 in
set_option maxRecDepth 100000 in
theorem value_boolN (k t : ByteArray) (i : Int) (w : World) (hT : Aside0 (TabW w)) (hi : -999999999999999 ≤ i ∧ i ≤ 999999999999999) (ht : (t.toList == ([] : List UInt8)) = false) :
    Calls Tryz.prog 24 #[.agg #[.string k, .int .i64 6, .int .i64 i, .string t]] w fun e w' => e = .returned (.tuple #[.string ((⟨#[63]⟩ : ByteArray) ++ itoaBA i), .bool false]) ∧ Below w.heap.size w w' := by
  have hu43 := Tryz.underlying43
  have hP : PB (w.alloc (.cells #[.string k, .int .i64 6, .int .i64 i, .string t] 43)) w.heap.size k 6 i t := PB_new4 _ _ _ _ _
  have hB := below_alloc (Below.refl w.heap.size w) (.cells #[.string k, .int .i64 6, .int .i64 i, .string t] 43)
  have d1 : decide (i < -999999999999999) = false := decide_eq_false (by omega)
  have d2 : decide (999999999999999 < i) = false := decide_eq_false (by omega)
  have hIt := Aside0.mk (fun W (hb : Below w.heap.size w W) => itoa_at i hi W (tab_ hT hb))
  have hz := itoa_size i (by omega) (by omega)
  have z1 : (9223372036854775807 < 1 + (itoaBA i).size) = False := eq_false (by omega)
  have z1b : (1 + (itoaBA i).size ≤ 9223372036854775807) = True := eq_true (by omega)
  clear hi hT hz
  go_enter Tryz.func24, Tryz.ntmps24
  have c1 := hP.c1
  have c2 := hP.c2
  have c3 := hP.c3
  have HB := Aside0.mk hB
  have HP := Aside0.mk hP
  clear hP hB
  go_upto_region 15 with (fail)
  have hK : ∀ W', Below (w.alloc (.cells #[.string k, .int .i64 6, .int .i64 i, .string t] 43)).heap.size (w.alloc (.cells #[.string k, .int .i64 6, .int .i64 i, .string t] 43)) W' → W'.cell? ⟨w.heap.size, 2, none⟩ = some (.int .i64 i) ∧ W'.cell? ⟨w.heap.size, 3, none⟩ = some (.string t) := (PB_held HP.out).out
  have K := Aside0.mk hK
  clear hK HP c1
  generalize w.alloc (.cells #[.string k, .int .i64 6, .int .i64 i, .string t] 43) = w1 at *
  refine wp_region_held_drew (S := fun w' => w'.cell? ⟨w.heap.size, 2, none⟩ = some (.int .i64 i) ∧ w'.cell? ⟨w.heap.size, 3, none⟩ = some (.string t)) (by kernel_rfl) (K.out _ (below_drew (Below.refl _ _))) (fun hHeld => ?_)
  refine wpAnyH_take (i := 0) (oi := { dst := some 58, op := _, type := _, pos := _, after := _, guard := _ }) rfl (by kernel_rfl) (by kernel_rfl) (by kernel_rfl) (fun _ _ _ h => h) (Or.inl ⟨by rfl, by (intro w hSw; (try dsimp only at hSw); go_simp); first | done | (with_reducible rfl)⟩) (by assumption) ?_
  try simp only [Act.put, List.setIfInBounds_toArray, List.set_cons_zero, List.set_cons_succ]
  refine wpAnyH_take (i := 1) (oi := { dst := some 59, op := _, type := _, pos := _, after := _, guard := _ }) rfl (by kernel_rfl) (by kernel_rfl) (by kernel_rfl) (fun _ _ _ h => h) (Or.inl ⟨by rfl, by (intro w hSw; (try dsimp only at hSw); go_simp); first | done | (with_reducible rfl)⟩) (by assumption) ?_
  try simp only [Act.put, List.setIfInBounds_toArray, List.set_cons_zero, List.set_cons_succ]
  refine wpAnyH_take (i := 4) (oi := { dst := some 62, op := _, type := _, pos := _, after := _, guard := _ }) rfl (by kernel_rfl) (by kernel_rfl) (by kernel_rfl) (fun _ _ _ h => h) (Or.inl ⟨by rfl, by (intro w hSw; (try dsimp only at hSw); go_simp); first | done | (with_reducible rfl)⟩) (by assumption) ?_
  try simp only [Act.put, List.setIfInBounds_toArray, List.set_cons_zero, List.set_cons_succ]
  refine wpAnyH_take (i := 5) (oi := { dst := some 63, op := _, type := _, pos := _, after := _, guard := _ }) rfl (by kernel_rfl) (by kernel_rfl) (by kernel_rfl) (fun _ _ _ h => h) (Or.inl ⟨by rfl, by (intro w hSw; (try dsimp only at hSw); go_simp); first | done | (with_reducible rfl)⟩) (by assumption) ?_
  try simp only [Act.put, List.setIfInBounds_toArray, List.set_cons_zero, List.set_cons_succ]
  refine wpAnyH_take (i := 6) (oi := { dst := some 64, op := _, type := _, pos := _, after := _, guard := _ }) rfl (by kernel_rfl) (by kernel_rfl) (by kernel_rfl) (fun _ _ _ h => h) (Or.inl ⟨by rfl, by (intro w hSw; (try dsimp only at hSw); go_simp); first | done | (with_reducible rfl)⟩) (by assumption) ?_
  try simp only [Act.put, List.setIfInBounds_toArray, List.set_cons_zero, List.set_cons_succ]
  refine wpAnyH_ready (rs := [2]) (by kernel_rfl) (by simp) ?_
  refine AllReadyH.cons rfl (fun Kq hK => ?_) ?_
  · go_simp
    (go_at_call 44; ((with_reducible refine (hIt.out _ ?_).mono ?_); (first | exact HB.out | exact below_drew1 HB.out); rintro e w3 ⟨rfl, hb3⟩; have hb4 := below_then (below_drew (Below.refl w1.heap.size w1)) (Nat.le_refl _) hb3; clear hb3))
    refine hK.out _ _ (K.out _ (by assumption)) (fun hHeld2 => ?_)
    clear hK Kq
    try simp only [Act.put, List.setIfInBounds_toArray, List.set_cons_zero, List.set_cons_succ]
    refine wpAnyH_take (i := 3) (oi := { dst := some 61, op := _, type := _, pos := _, after := _, guard := _ }) rfl (by kernel_rfl) (by kernel_rfl) (by kernel_rfl) (fun _ _ _ h => h) (Or.inl ⟨by rfl, by (intro w hSw; (try dsimp only at hSw); go_simp); first | done | (with_reducible rfl)⟩) (by assumption) ?_
    try simp only [Act.put, List.setIfInBounds_toArray, List.set_cons_zero, List.set_cons_succ]
    refine wpAnyH_take (i := 7) (oi := { dst := some 65, op := _, type := _, pos := _, after := _, guard := _ }) rfl (by kernel_rfl) (by kernel_rfl) (by kernel_rfl) (fun _ _ _ h => h) (Or.inl ⟨by rfl, by (intro w hSw; (try dsimp only at hSw); go_simp); first | done | (with_reducible rfl)⟩) (by assumption) ?_
    try simp only [Act.put, List.setIfInBounds_toArray, List.set_cons_zero, List.set_cons_succ]
    refine wpAnyH_take (i := 8) (oi := { dst := some 66, op := _, type := _, pos := _, after := _, guard := _ }) (v := undef) rfl (by kernel_rfl) (by kernel_rfl) (by kernel_rfl) (fun _ _ _ h => h) (Or.inr ⟨by rfl, rfl⟩) (by assumption) ?_
    try simp only [Act.put, List.setIfInBounds_toArray, List.set_cons_zero, List.set_cons_succ]
    refine wpAnyH_take (i := 9) (oi := { dst := some 67, op := _, type := _, pos := _, after := _, guard := _ }) (v := undef) rfl (by kernel_rfl) (by kernel_rfl) (by kernel_rfl) (fun _ _ _ h => h) (Or.inr ⟨by rfl, rfl⟩) (by assumption) ?_
    try simp only [Act.put, List.setIfInBounds_toArray, List.set_cons_zero, List.set_cons_succ]
    refine wpAnyH_take (i := 10) (oi := { dst := some 68, op := _, type := _, pos := _, after := _, guard := _ }) (v := undef) rfl (by kernel_rfl) (by kernel_rfl) (by kernel_rfl) (fun _ _ _ h => h) (Or.inr ⟨by rfl, rfl⟩) (by assumption) ?_
    try simp only [Act.put, List.setIfInBounds_toArray, List.set_cons_zero, List.set_cons_succ]
    refine wpAnyH_take (i := 11) (oi := { dst := some 69, op := _, type := _, pos := _, after := _, guard := _ }) (v := undef) rfl (by kernel_rfl) (by kernel_rfl) (by kernel_rfl) (fun _ _ _ h => h) (Or.inr ⟨by rfl, rfl⟩) (by assumption) ?_
    try simp only [Act.put, List.setIfInBounds_toArray, List.set_cons_zero, List.set_cons_succ]
    refine wpAnyH_take (i := 12) (oi := { dst := some 70, op := _, type := _, pos := _, after := _, guard := _ }) rfl (by kernel_rfl) (by kernel_rfl) (by kernel_rfl) (fun _ _ _ h => h) (Or.inl ⟨by rfl, by (intro w hSw; (try dsimp only at hSw); go_simp); first | done | (with_reducible rfl)⟩) (by assumption) ?_
    try simp only [Act.put, List.setIfInBounds_toArray, List.set_cons_zero, List.set_cons_succ]
    refine wpAnyH_take (i := 13) (oi := { dst := some 2, op := _, type := _, pos := _, after := _, guard := _ }) rfl (by kernel_rfl) (by kernel_rfl) (by kernel_rfl) (fun _ _ _ h => h) (Or.inl ⟨by rfl, by (intro w hSw; (try dsimp only at hSw); go_simp); first | done | (with_reducible rfl)⟩) (by assumption) ?_
    try simp only [Act.put, List.setIfInBounds_toArray, List.set_cons_zero, List.set_cons_succ]
    refine wpAnyH_take (i := 14) (oi := { dst := some 3, op := _, type := _, pos := _, after := _, guard := _ }) rfl (by kernel_rfl) (by kernel_rfl) (by kernel_rfl) (fun _ _ _ h => h) (Or.inl ⟨by rfl, by (intro w hSw; (try dsimp only at hSw); go_simp); first | done | (with_reducible rfl)⟩) (by assumption) ?_
    try simp only [Act.put, List.setIfInBounds_toArray, List.set_cons_zero, List.set_cons_succ]
    refine wpAnyH_done (by kernel_rfl) ?_ _
    go_wp2
    go_ret2
    exact ⟨rfl, below_then HB.out HB.out.size hb4⟩
  · exact AllReadyH.nil
set_option maxHeartbeats 4000000 in
set_option maxRecDepth 100000 in
theorem value_tokN (k t : ByteArray) (i : Int) (w : World) (hi : -999999999999999 ≤ i ∧ i ≤ 999999999999999) (hn : ¬ i = 0) :
    Calls Tryz.prog 24 #[.agg #[.string k, .int .i64 4, .int .i64 i, .string t]] w fun e w' => e = .returned (.tuple #[.string t, .bool false]) ∧ Below w.heap.size w w' := by
  have hu43 := Tryz.underlying43
  have hP : PB (w.alloc (.cells #[.string k, .int .i64 4, .int .i64 i, .string t] 43)) w.heap.size k 4 i t := PB_new4 _ _ _ _ _
  have hB := below_alloc (Below.refl w.heap.size w) (.cells #[.string k, .int .i64 4, .int .i64 i, .string t] 43)
  have d1 : decide (i < -999999999999999) = false := decide_eq_false (by omega)
  have d2 : decide (999999999999999 < i) = false := decide_eq_false (by omega)
  have d3 : (i == 0) = false := by simp [hn]
  clear hi hn
  go_enter Tryz.func24, Tryz.ntmps24
  have c1 := hP.c1
  have c2 := hP.c2
  have c3 := hP.c3
  have HB := Aside0.mk hB
  have HP := Aside0.mk hP
  clear hP hB
  go_upto_region 29 with (fail)
  have hK : ∀ W', Below (w.alloc (.cells #[.string k, .int .i64 4, .int .i64 i, .string t] 43)).heap.size (w.alloc (.cells #[.string k, .int .i64 4, .int .i64 i, .string t] 43)) W' → W'.cell? ⟨w.heap.size, 2, none⟩ = some (.int .i64 i) ∧ W'.cell? ⟨w.heap.size, 3, none⟩ = some (.string t) := (PB_held HP.out).out
  have K := Aside0.mk hK
  clear hK HP c1
  generalize w.alloc (.cells #[.string k, .int .i64 4, .int .i64 i, .string t] 43) = w1 at *
  refine wp_region_held_drew (S := fun w' => w'.cell? ⟨w.heap.size, 2, none⟩ = some (.int .i64 i) ∧ w'.cell? ⟨w.heap.size, 3, none⟩ = some (.string t)) (by kernel_rfl) (K.out _ (below_drew (Below.refl _ _))) (fun hHeld => ?_)
  refine wpAnyH_take (i := 0) (oi := { dst := some 104, op := _, type := _, pos := _, after := _, guard := _ }) rfl (by kernel_rfl) (by kernel_rfl) (by kernel_rfl) (fun _ _ _ h => h) (Or.inl ⟨by rfl, by (intro w hSw; (try dsimp only at hSw); go_simp); first | done | (with_reducible rfl)⟩) (by assumption) ?_
  try simp only [Act.put, List.setIfInBounds_toArray, List.set_cons_zero, List.set_cons_succ]
  refine wpAnyH_take (i := 1) (oi := { dst := some 105, op := _, type := _, pos := _, after := _, guard := _ }) rfl (by kernel_rfl) (by kernel_rfl) (by kernel_rfl) (fun _ _ _ h => h) (Or.inl ⟨by rfl, by (intro w hSw; (try dsimp only at hSw); go_simp); first | done | (with_reducible rfl)⟩) (by assumption) ?_
  try simp only [Act.put, List.setIfInBounds_toArray, List.set_cons_zero, List.set_cons_succ]
  refine wpAnyH_take (i := 2) (oi := { dst := some 106, op := _, type := _, pos := _, after := _, guard := _ }) rfl (by kernel_rfl) (by kernel_rfl) (by kernel_rfl) (fun _ _ _ h => h) (Or.inl ⟨by rfl, by (intro w hSw; (try dsimp only at hSw); go_simp); first | done | (with_reducible rfl)⟩) (by assumption) ?_
  try simp only [Act.put, List.setIfInBounds_toArray, List.set_cons_zero, List.set_cons_succ]
  refine wpAnyH_take (i := 3) (oi := { dst := some 107, op := _, type := _, pos := _, after := _, guard := _ }) rfl (by kernel_rfl) (by kernel_rfl) (by kernel_rfl) (fun _ _ _ h => h) (Or.inl ⟨by rfl, by (intro w hSw; (try dsimp only at hSw); go_simp); first | done | (with_reducible rfl)⟩) (by assumption) ?_
  try simp only [Act.put, List.setIfInBounds_toArray, List.set_cons_zero, List.set_cons_succ]
  refine wpAnyH_take (i := 4) (oi := { dst := some 108, op := _, type := _, pos := _, after := _, guard := _ }) rfl (by kernel_rfl) (by kernel_rfl) (by kernel_rfl) (fun _ _ _ h => h) (Or.inl ⟨by rfl, by (intro w hSw; (try dsimp only at hSw); go_simp); first | done | (with_reducible rfl)⟩) (by assumption) ?_
  try simp only [Act.put, List.setIfInBounds_toArray, List.set_cons_zero, List.set_cons_succ]
  refine wpAnyH_take (i := 5) (oi := { dst := some 109, op := _, type := _, pos := _, after := _, guard := _ }) rfl (by kernel_rfl) (by kernel_rfl) (by kernel_rfl) (fun _ _ _ h => h) (Or.inl ⟨by rfl, by (intro w hSw; (try dsimp only at hSw); go_simp); first | done | (with_reducible rfl)⟩) (by assumption) ?_
  try simp only [Act.put, List.setIfInBounds_toArray, List.set_cons_zero, List.set_cons_succ]
  refine wpAnyH_take (i := 6) (oi := { dst := some 110, op := _, type := _, pos := _, after := _, guard := _ }) (v := undef) rfl (by kernel_rfl) (by kernel_rfl) (by kernel_rfl) (fun _ _ _ h => h) (Or.inr ⟨by rfl, rfl⟩) (by assumption) ?_
  try simp only [Act.put, List.setIfInBounds_toArray, List.set_cons_zero, List.set_cons_succ]
  refine wpAnyH_take (i := 7) (oi := { dst := some 111, op := _, type := _, pos := _, after := _, guard := _ }) (v := undef) rfl (by kernel_rfl) (by kernel_rfl) (by kernel_rfl) (fun _ _ _ h => h) (Or.inr ⟨by rfl, rfl⟩) (by assumption) ?_
  try simp only [Act.put, List.setIfInBounds_toArray, List.set_cons_zero, List.set_cons_succ]
  refine wpAnyH_take (i := 8) (oi := { dst := some 112, op := _, type := _, pos := _, after := _, guard := _ }) (v := undef) rfl (by kernel_rfl) (by kernel_rfl) (by kernel_rfl) (fun _ _ _ h => h) (Or.inr ⟨by rfl, rfl⟩) (by assumption) ?_
  try simp only [Act.put, List.setIfInBounds_toArray, List.set_cons_zero, List.set_cons_succ]
  refine wpAnyH_take (i := 9) (oi := { dst := some 113, op := _, type := _, pos := _, after := _, guard := _ }) rfl (by kernel_rfl) (by kernel_rfl) (by kernel_rfl) (fun _ _ _ h => h) (Or.inl ⟨by rfl, by (intro w hSw; (try dsimp only at hSw); go_simp); first | done | (with_reducible rfl)⟩) (by assumption) ?_
  try simp only [Act.put, List.setIfInBounds_toArray, List.set_cons_zero, List.set_cons_succ]
  refine wpAnyH_take (i := 10) (oi := { dst := some 2, op := _, type := _, pos := _, after := _, guard := _ }) rfl (by kernel_rfl) (by kernel_rfl) (by kernel_rfl) (fun _ _ _ h => h) (Or.inl ⟨by rfl, by (intro w hSw; (try dsimp only at hSw); go_simp); first | done | (with_reducible rfl)⟩) (by assumption) ?_
  try simp only [Act.put, List.setIfInBounds_toArray, List.set_cons_zero, List.set_cons_succ]
  refine wpAnyH_take (i := 11) (oi := { dst := some 3, op := _, type := _, pos := _, after := _, guard := _ }) rfl (by kernel_rfl) (by kernel_rfl) (by kernel_rfl) (fun _ _ _ h => h) (Or.inl ⟨by rfl, by (intro w hSw; (try dsimp only at hSw); go_simp); first | done | (with_reducible rfl)⟩) (by assumption) ?_
  try simp only [Act.put, List.setIfInBounds_toArray, List.set_cons_zero, List.set_cons_succ]
  refine wpAnyH_done (by kernel_rfl) ?_ _
  go_wp2
  go_ret2
  exact ⟨rfl, below_drew1 HB.out⟩
def sfitem_value.f (a0_0 : ByteArray) (a0_1 : Int) (a0_2 : Int) (a0_3 : ByteArray) : Option (ByteArray × Bool) :=
  if ¬ a0_3.size ≤ 2199023255540 then none
  else if a0_2 < -999999999999999 ∨ 999999999999999 < a0_2 then some (⟨#[]⟩, false)
  else if a0_1 = 1 then some (itoaBA a0_2, a0_3.toList.isEmpty)
  else if a0_1 = 2 then some (decB a0_2, a0_3.toList.isEmpty)
  else if a0_1 = 6 then (if (a0_3.toList == ([] : List UInt8)) = true then some ((⟨#[63]⟩ : ByteArray) ++ itoaBA a0_2, Go.bits .andNot .i64 a0_2 1 == 0) else some ((⟨#[63]⟩ : ByteArray) ++ itoaBA a0_2, false))
  else if a0_1 = 3 then some (textF a0_2 a0_3)
  else if a0_1 = 4 then (if a0_2 = 0 then (sfitem_whole.f a0_3 4).bind fun b => some (a0_3, b) else some (a0_3, false))
  else if a0_1 = 5 then (if a0_2 = 0 then (sfitem_whole.f (((⟨#[58]⟩ : ByteArray) ++ a0_3) ++ (⟨#[58]⟩ : ByteArray)) 5).bind fun b => some (((⟨#[58]⟩ : ByteArray) ++ a0_3) ++ (⟨#[58]⟩ : ByteArray), b) else some (((⟨#[58]⟩ : ByteArray) ++ a0_3) ++ (⟨#[58]⟩ : ByteArray), false))
  else some (⟨#[]⟩, false)
theorem sfitem_value.calls (a0_0 : ByteArray) (a0_1 : Int) (a0_2 : Int) (a0_3 : ByteArray) (r1 : ByteArray) (r2 : Bool) (w : World) (hT_ : Aside0 (TabW w)) (h : sfitem_value.f a0_0 a0_1 a0_2 a0_3 = some (r1, r2)) :
    Calls Tryz.prog 24 #[.agg #[.string a0_0, .int .i64 a0_1, .int .i64 a0_2, .string a0_3]] w fun e w' => e = .returned (.tuple #[.string r1, .bool r2]) ∧ Below w.heap.size w w' := by
  unfold sfitem_value.f at h
  by_cases hz : a0_3.size ≤ 2199023255540
  · rw [if_neg (fun h => h hz)] at h
    by_cases hr : a0_2 < -999999999999999 ∨ 999999999999999 < a0_2
    · rw [if_pos hr] at h
      obtain ⟨rfl, rfl⟩ := Prod.mk.inj (Option.some.inj h)
      by_cases h1 : a0_2 < -999999999999999
      · exact value_low a0_0 a0_3 a0_2 w a0_1 h1
      · exact value_high a0_0 a0_3 a0_2 w a0_1 h1 (hr.resolve_left h1)
    · rw [if_neg hr] at h
      have hi : -999999999999999 ≤ a0_2 ∧ a0_2 ≤ 999999999999999 := ⟨Int.not_lt.1 (fun h => hr (Or.inl h)), Int.not_lt.1 (fun h => hr (Or.inr h))⟩
      by_cases k1 : a0_1 = 1
      · subst k1
        rw [if_pos rfl] at h
        obtain ⟨rfl, rfl⟩ := Prod.mk.inj (Option.some.inj h)
        exact value_int a0_0 a0_3 a0_2 w hT_ hi
      · rw [if_neg k1] at h
        by_cases k2 : a0_1 = 2
        · subst k2
          rw [if_pos rfl] at h
          obtain ⟨rfl, rfl⟩ := Prod.mk.inj (Option.some.inj h)
          exact value_dec a0_0 a0_3 a0_2 w hT_ hi
        · rw [if_neg k2] at h
          by_cases k6 : a0_1 = 6
          · subst k6
            rw [if_pos rfl] at h
            by_cases he : (a0_3.toList == ([] : List UInt8)) = true
            · rw [if_pos he] at h
              obtain ⟨rfl, rfl⟩ := Prod.mk.inj (Option.some.inj h)
              exact value_boolE a0_0 a0_3 a0_2 w hT_ hi he
            · rw [if_neg he] at h
              obtain ⟨rfl, rfl⟩ := Prod.mk.inj (Option.some.inj h)
              exact value_boolN a0_0 a0_3 a0_2 w hT_ hi (Bool.eq_false_iff.mpr he)
          · rw [if_neg k6] at h
            by_cases k3 : a0_1 = 3
            · subst k3
              rw [if_pos rfl] at h
              have h := Option.some.inj h
              have e1 : (textF a0_2 a0_3).1 = r1 := by rw [h]
              have e2 : (textF a0_2 a0_3).2 = r2 := by rw [h]
              subst e1 e2
              exact value_text a0_0 a0_3 a0_2 w hi (by omega)
            · rw [if_neg k3] at h
              by_cases k4 : a0_1 = 4
              · subst k4
                rw [if_pos rfl] at h
                by_cases h0 : a0_2 = 0
                · subst h0
                  rw [if_pos rfl] at h
                  obtain ⟨b, hb, h⟩ := Option.bind_eq_some_iff.1 h
                  obtain ⟨rfl, rfl⟩ := Prod.mk.inj (Option.some.inj h)
                  exact value_token a0_0 a0_3 w b hb
                · rw [if_neg h0] at h
                  obtain ⟨rfl, rfl⟩ := Prod.mk.inj (Option.some.inj h)
                  exact value_tokN a0_0 a0_3 a0_2 w hi h0
              · rw [if_neg k4] at h
                by_cases k5 : a0_1 = 5
                · subst k5
                  rw [if_pos rfl] at h
                  by_cases h0 : a0_2 = 0
                  · subst h0
                    rw [if_pos rfl] at h
                    obtain ⟨b, hb, h⟩ := Option.bind_eq_some_iff.1 h
                    obtain ⟨rfl, rfl⟩ := Prod.mk.inj (Option.some.inj h)
                    exact value_bytesZ a0_0 a0_3 w b hz hb
                  · rw [if_neg h0] at h
                    obtain ⟨rfl, rfl⟩ := Prod.mk.inj (Option.some.inj h)
                    exact value_bytesN a0_0 a0_3 a0_2 w hi hz h0
                · rw [if_neg k5] at h
                  obtain ⟨rfl, rfl⟩ := Prod.mk.inj (Option.some.inj h)
                  exact value_none a0_0 a0_3 a0_2 w a0_1 hi ⟨k1, k2, k6, k3, k4, k5⟩
  · rw [if_pos hz] at h; cases h
end Go.Proofs.YtbbaokjkmcfceaaGreatDoor.Q
namespace Go.Proofs.YtbbaokjkmcfceaaGreatDoor.Q
open Go.RowKit Go.Proofs.YtbbaokjkmcfceaaGreatDoorW.PrintWords Go.Proofs.YtbbaokjkmcfceaaGreatDoorW.PrintLast Go.Proofs.YtbbaokjkmcfceaaGreatDoorW.PrintMore
set_option linter.unusedVariables false
set_option linter.unusedSimpArgs false
attribute [local go_sem high] eqA43
open Go.Proofs.YtbbaokjkmcfceaaGreatDoor.Sf
/-- A text as a map's key. -/
def keyT (s : ByteArray) : Lit := .string s.data.toList
theorem keyT_inj {s t : ByteArray} (h : keyT s = keyT t) : s = t := by
  unfold keyT at h
  injection h with h
  exact ByteArray.ext (Array.toList_inj.1 h)
theorem keyT_is (s : ByteArray) : WideAt.IsKeyLit (keyT s) := trivial
def heldT (v : Value) : Option (DataW Value × List MemPlace) := some (.held v, [])
def falseD : DataW Value := .held (.bool false)
def inL (s : ByteArray) (seen : List ByteArray) : Bool := seen.any (fun y => decide (y = s))
/-- The keys that were seen. -/
def SeenAt (D : DataW Value) (seen : List ByteArray) : Prop := Go.Maps.IsMap D ∧ ∀ s : ByteArray, D.atKey (keyT s) falseD = .held (.bool (inL s seen))
theorem SeenAt.start : SeenAt (.map []) [] := ⟨⟨[], rfl⟩, fun s => rfl⟩
theorem SeenAt.put {D : DataW Value} {seen : List ByteArray} (h : SeenAt D seen) (x : ByteArray) : SeenAt (D.put (keyT x) (.held (.bool true))) (x :: seen) := by
  refine ⟨h.1.put _ _, fun s => ?_⟩
  by_cases e : s = x
  · subst e
    rw [Go.Maps.atKey_put_same h.1 (keyT_is _)]
    simp [inL]
  · rw [Go.Maps.atKey_put_other (fun e' => e (keyT_inj e')), h.2 s]
    have e2 : ¬ x = s := fun h => e h.symm
    simp [inL, e2]
theorem seen_look {W : World} {b n : Nat} {D : DataW Value} {seen : List ByteArray} (hown : W.ownsMap Tryz.prog 9 heldT b n D) (hS : SeenAt D seen) (s : ByteArray) (hs : s.size ≤ 281474976710656) :
    (Instr.lookup 49 (.map (some b)) (.string s) false).run Tryz.prog W = .ok (.bool (inL s seen)) W := by
  have kd : keyOf Tryz.prog 9 (.string s) = some (keyT s) := WideMaps.keyOf_string_mk Tryz.underlying9 (by unfold maxLen; omega)
  have zE : (zeroValue 4).run Tryz.prog W = .ok (.bool false) W := by kernel_rfl
  obtain ⟨v, ps, hrun, hv⟩ := hown.lookup (Go.Maps.string_keyed Tryz.underlying9) Tryz.underlying49 zE (zd := falseD) (zp := []) rfl kd
  rw [hS.2 s] at hv
  have e : v = .bool (inL s seen) := by
    unfold heldT at hv
    simp only [Option.some.injEq, Prod.mk.injEq, DataW.held.injEq] at hv
    exact hv.1
  rw [e] at hrun
  exact hrun
/-- The text of parameters, from the first that is left. -/
def partT (p : S43) (o v : ByteArray) : ByteArray := if p.f1 ≠ 6 ∨ p.f2 = 0 then (o ++ ((⟨#[59]⟩ : ByteArray) ++ p.f0)) ++ ((⟨#[61]⟩ : ByteArray) ++ v) else o ++ ((⟨#[59]⟩ : ByteArray) ++ p.f0)
def badP (p : S43) (b : Bool) (seen : List ByteArray) : Bool := (keyF p.f0).2.2 != 0 || ((keyF p.f0).2.1.toList != ([] : List UInt8) || (!b || inL p.f0 seen))
def tailF : List S43 → List ByteArray → ByteArray → Option (ByteArray × Int)
  | [], _, o => some (o, 0)
  | p :: ps, seen, o => (sfitem_value.f p.f0 p.f1 p.f2 p.f3).bind fun v =>
    if ¬ (p.f0.size ≤ 2199023255552 ∧ o.size ≤ 1152921504606846976 ∧ v.1.size ≤ 1152921504606846976) then none
    else if badP p v.2 seen = true then some (⟨#[]⟩, 50)
    else tailF ps (p.f0 :: seen) (partT p o v.1)
set_option maxHeartbeats 8000000 in
set_option maxRecDepth 100000 in
theorem Tail_calls (A : Option Addr) (c : Nat) (l : List S43) (r1 : ByteArray) (r2 : Int) (w : World) (hT_ : Aside0 (TabW w)) (hC : Kd.C k43 w A l.length l) (hl : l.length ≤ 140737488355327) (h : tailF l [] ⟨#[]⟩ = some (r1, r2)) :
    Calls Tryz.prog 13 #[.slice A l.length c] w fun e w' => e = .returned (.tuple #[.string r1, .int .i64 r2]) ∧ Below w.heap.size w w' := by
  have hu43 := Tryz.underlying43
  have hmm := @run_makeMap Tryz.prog
  have kd : ∀ s : ByteArray, s.size ≤ 281474976710656 → keyOf Tryz.prog 9 (.string s) = some (keyT s) := fun s hs => WideMaps.keyOf_string_mk Tryz.underlying9 (by unfold maxLen; omega)
  have HC := Aside0.mk hC
  have HH := Aside0.mk h
  have HO := Aside0.mk (World.ownsMap_made (H := Value) w Tryz.prog 9 heldT)
  have HB := Aside0.mk (below_alloc (Below.refl w.heap.size w) (.map #[] 0))
  clear hC h
  go_enter Tryz.func13, Tryz.ntmps13
  go_wp2
  generalize w.alloc (.map #[] 0) = w1 at *
  go_loopw [4, 7, 8, 9, 10, 11, 12, 16] (fun v4 v7 v8 v9 v10 v11 v12 v16 wr => ∃ (n : Nat) (o : ByteArray) (seen : List ByteArray) (D : DataW Value), n ≤ l.length ∧ v16 = .int .i64 n ∧ v4 = .string o ∧ Aside0 (tailF (l.drop n) seen o = some (r1, r2)) ∧ Aside0 (wr.ownsMap Tryz.prog 9 heldT w.heap.size n D) ∧ Aside0 (SeenAt D seen) ∧ Aside0 (Below w.heap.size w wr)) (fun _ _ _ _ _ _ _ v16 _ => l.length - (intOf v16).toNat)
  case atStart => exact ⟨0, _, [], _, Nat.zero_le _, rfl, rfl, HH, HO, ⟨SeenAt.start⟩, HB⟩
  case round =>
    clear HH HO HB
    obtain ⟨n, o, seen, D, hn, rfl, rfl, HH, HO, HS, HB⟩ := hrel
    by_cases hlt : n < l.length
    · have hltd : decide ((n : Int) < (l.length : Int)) = true := decide_eq_true (by omega)
      obtain ⟨ad, hA, h0, h1, h2, h3⟩ := at_T43 (Kd.C_below HC.out HB.out) (n : Int) (by omega) (by omega)
      subst hA
      simp only [Int.toNat_natCast] at h0 h1 h2 h3
      have p1 : (0 ≤ (n : Int)) = True := eq_true (by omega)
      have p2 : ((n : Int) < (l.length : Int)) = True := eq_true (by omega)
      have hH := HH.out
      rw [List.drop_eq_getElem_cons hlt, tailF] at hH
      rw [← rd_get l n hlt] at hH
      obtain ⟨v, hv, hH⟩ := Option.bind_eq_some_iff.1 hH
      obtain ⟨v1, v2⟩ := v
      generalize rd_T43 l n = p at *
      by_cases hz : p.f0.size ≤ 2199023255552 ∧ o.size ≤ 1152921504606846976 ∧ v1.size ≤ 1152921504606846976
      · rw [if_neg (fun h => h hz)] at hH
        obtain ⟨hz1, hz2, hz3⟩ := hz
        have hPn := PB_new4 wr p.f0 p.f1 p.f2 p.f3
        have hmb : w.heap.size < wr.heap.size := HO.out.lt
        have HO2 := Aside0.mk (HO.out.alloc (.cells #[.string p.f0, .int .i64 p.f1, .int .i64 p.f2, .string p.f3] 43))
        have HB2 := Aside0.mk (below_alloc HB.out (.cells #[.string p.f0, .int .i64 p.f1, .int .i64 p.f2, .string p.f3] 43))
        have hKy := Aside0.mk (fun W => Key_calls p.f0 W hz1)
        have hVa := Aside0.mk (fun W (hb : Below w.heap.size w W) => sfitem_value.calls p.f0 p.f1 p.f2 p.f3 v1 v2 W (tab_ hT_ hb) hv)
        have HH := Aside0.mk hH
        clear hH hv
        go_upto_region 6 with (fail)
        clear h0 h1 h2 h3
        generalize wr.alloc (.cells #[.string p.f0, .int .i64 p.f1, .int .i64 p.f2, .string p.f3] 43) = w2 at *
        generalize wr.heap.size = pb at *
        have k0 := hPn.c0
        go_upto_region 7 with (first | (go_at_call 20; refine (hKy.out _).mono ?_; rintro e w3 ⟨rfl, hb3⟩; have hP3 : PB w3 pb p.f0 p.f1 p.f2 p.f3 := blk_below hPn hb3; have HB3 := Aside0.mk (below_then HB2.out HB2.out.size hb3); have HO3 := Aside0.mk (HO2.out.kept (grown_of_below hb3 none) (by simp)); clear hb3))
        have j0 := hP3.c0
        have j1 := hP3.c1
        have j2 := hP3.c2
        have j3 := hP3.c3
        clear k0 hPn HO2 HB2 HO HB
        go_upto_region 8 with (first | (go_at_call 24; refine (hVa.out _ HB3.out).mono ?_; rintro e w4 ⟨rfl, hb4⟩; have hP4 : PB w4 pb p.f0 p.f1 p.f2 p.f3 := blk_below hP3 hb4; have HB4 := Aside0.mk (below_then HB3.out HB3.out.size hb4); have HO4 := Aside0.mk (HO3.out.kept (grown_of_below hb4 none) (by simp)); clear hb4))
        clear j0 j1 j2 j3 hP3 HB3 HO3 hKy hVa
        have j0 := hP4.c0
        have j1 := hP4.c1
        have j2 := hP4.c2
        have hlook := seen_look HO4.out HS.out p.f0 (by omega)
        have hBD : badP p v2 seen = ((keyF p.f0).2.2 != 0 || ((keyF p.f0).2.1.toList != ([] : List UInt8) || (!v2 || inL p.f0 seen))) := rfl
        generalize badP p v2 seen = bd at *
        generalize (keyF p.f0).2.2 = k3 at *
        generalize (keyF p.f0).2.1 = k2 at *
        generalize (keyF p.f0).1 = k1 at *
        have HBD := Aside0.mk hBD
        clear hBD hH
        go_cut [47] (fun v47 wc => v47 = .bool bd ∧ wc = w4)
        case first =>
          cases e1 : (k3 != 0) with
          | true =>
            have e1b : (k3 == 0) = false := by simpa [bne] using e1
            have e1c : decide (k3 = 0) = false := by simpa using e1b
            go_wp2
            go_meet
            case rel => exact ⟨by rw [HBD.out, e1] <;> rfl, rfl⟩
          | false =>
            have e1b : (k3 == 0) = true := by simpa [bne] using e1
            have e1c : decide (k3 = 0) = true := by simpa using e1b
            cases e2 : (k2.toList != ([] : List UInt8)) with
            | true =>
              have e2b : (k2.toList == ([] : List UInt8)) = false := by simpa [bne] using e2
              have e2c : k2.toList.isEmpty = false := by simpa using e2b
              go_wp2
              go_meet
              case rel => exact ⟨by rw [HBD.out, e1, e2] <;> rfl, rfl⟩
            | false =>
              have e2b : (k2.toList == ([] : List UInt8)) = true := by simpa [bne] using e2
              have e2c : k2.toList.isEmpty = true := by simpa using e2b
              cases v2 with
              | false =>
                go_wp2
                go_meet
                case rel => exact ⟨by rw [HBD.out, e1, e2] <;> rfl, rfl⟩
              | true =>
                go_wp2
                go_meet
                case rel => exact ⟨by rw [HBD.out, e1, e2] <;> rfl, rfl⟩
        case rest =>
          obtain ⟨rfl, rfl⟩ := hcut
          clear hlook
          cases bd with
          | true =>
            have hH := HH.out
            rw [if_pos rfl] at hH
            obtain ⟨rfl, rfl⟩ := Prod.mk.inj (Option.some.inj hH)
            clear hH HH
            go_wp2
            go_ret2
            exact ⟨rfl, HB4.out⟩
          | false =>
            have hH := HH.out
            rw [if_neg (by decide)] at hH
            have HH0 := Aside0.mk hH
            clear hH HH
            have z1 : (9223372036854775807 < 1 + p.f0.size) = False := eq_false (by omega)
            have z1b : (1 + p.f0.size ≤ 9223372036854775807) = True := eq_true (by omega)
            have z2 : (9223372036854775807 < o.size + (1 + p.f0.size)) = False := eq_false (by omega)
            have z2b : (o.size + (1 + p.f0.size) ≤ 9223372036854775807) = True := eq_true (by omega)
            have z3 : (9223372036854775807 < 1 + v1.size) = False := eq_false (by omega)
            have z3b : (1 + v1.size ≤ 9223372036854775807) = True := eq_true (by omega)
            have z4 : (9223372036854775807 < o.size + (1 + p.f0.size) + (1 + v1.size)) = False := eq_false (by omega)
            have z4b : (o.size + (1 + p.f0.size) + (1 + v1.size) ≤ 9223372036854775807) = True := eq_true (by omega)
            by_cases e6 : p.f1 = 6
            · have b6 : (p.f1 != 6) = false := by simp [e6]
              by_cases e0 : p.f2 = 0
              · have b0 : (p.f2 == 0) = true := by simp [e0]
                have HH1 := Aside0.mk (HH0.out.symm ▸ (show tailF (l.drop (n + 1)) (p.f0 :: seen) ((o ++ ((⟨#[59]⟩ : ByteArray) ++ p.f0)) ++ ((⟨#[61]⟩ : ByteArray) ++ v1)) = tailF (l.drop (n + 1)) (p.f0 :: seen) (partT p o v1) from by unfold partT; rw [if_pos (Or.inr e0)]))
                clear e6 e0
                clear HH0
                go_wp2_with (first | ((with_reducible refine gate_ (.mapUpdate 49 (.tmp 48) (.tmp 50) (.const (.bool true))) rfl ?_); refine wpList_mapUpdate_own _ rfl _ _ _ 49 rfl 9 4 (Go.Maps.string_keyed Tryz.underlying9) Tryz.underlying49 heldT _ _ _ rfl HO4.out (by unfold maxLen; omega) _ _ _ rfl rfl (kd _ (by omega)) _ [] rfl ?_; intro w7 hown7 hgrow7; have hP7 : PB w7 pb p.f0 p.f1 p.f2 p.f3 := blk_grown hP4 hgrow7 (by simp only [ne_eq, Option.some.injEq]; omega); have j0 := hP7.c0; have j1 := hP7.c1; have j2 := hP7.c2; have HO7 := Aside0.mk hown7; have HB7 := Aside0.mk (HB4.out.grown hgrow7 HB4.out.size (fun b e => by cases e; exact Nat.le_refl _)); clear hown7 hgrow7))
                go_roundw
                case rel => exact ⟨n + 1, _, p.f0 :: seen, _, by omega, by go_num, rfl, HH1, HO7, ⟨HS.out.put p.f0⟩, HB7⟩
                case measure => simp [intOf]; omega
              · have b0 : (p.f2 == 0) = false := by simp [e0]
                have HH1 := Aside0.mk (HH0.out.symm ▸ (show tailF (l.drop (n + 1)) (p.f0 :: seen) (o ++ ((⟨#[59]⟩ : ByteArray) ++ p.f0)) = tailF (l.drop (n + 1)) (p.f0 :: seen) (partT p o v1) from by unfold partT; rw [if_neg (fun h => h.elim (fun h => h e6) e0)]))
                clear e6 e0
                clear HH0
                go_wp2_with (first | ((with_reducible refine gate_ (.mapUpdate 49 (.tmp 48) (.tmp 50) (.const (.bool true))) rfl ?_); refine wpList_mapUpdate_own _ rfl _ _ _ 49 rfl 9 4 (Go.Maps.string_keyed Tryz.underlying9) Tryz.underlying49 heldT _ _ _ rfl HO4.out (by unfold maxLen; omega) _ _ _ rfl rfl (kd _ (by omega)) _ [] rfl ?_; intro w7 hown7 hgrow7; have hP7 : PB w7 pb p.f0 p.f1 p.f2 p.f3 := blk_grown hP4 hgrow7 (by simp only [ne_eq, Option.some.injEq]; omega); have j0 := hP7.c0; have j1 := hP7.c1; have j2 := hP7.c2; have HO7 := Aside0.mk hown7; have HB7 := Aside0.mk (HB4.out.grown hgrow7 HB4.out.size (fun b e => by cases e; exact Nat.le_refl _)); clear hown7 hgrow7))
                go_roundw
                case rel => exact ⟨n + 1, _, p.f0 :: seen, _, by omega, by go_num, rfl, HH1, HO7, ⟨HS.out.put p.f0⟩, HB7⟩
                case measure => simp [intOf]; omega
            · have b6 : (p.f1 != 6) = true := by simp [e6]
              have HH1 := Aside0.mk (HH0.out.symm ▸ (show tailF (l.drop (n + 1)) (p.f0 :: seen) ((o ++ ((⟨#[59]⟩ : ByteArray) ++ p.f0)) ++ ((⟨#[61]⟩ : ByteArray) ++ v1)) = tailF (l.drop (n + 1)) (p.f0 :: seen) (partT p o v1) from by unfold partT; rw [if_pos (Or.inl e6)]))
              clear e6
              clear HH0
              go_wp2_with (first | ((with_reducible refine gate_ (.mapUpdate 49 (.tmp 48) (.tmp 50) (.const (.bool true))) rfl ?_); refine wpList_mapUpdate_own _ rfl _ _ _ 49 rfl 9 4 (Go.Maps.string_keyed Tryz.underlying9) Tryz.underlying49 heldT _ _ _ rfl HO4.out (by unfold maxLen; omega) _ _ _ rfl rfl (kd _ (by omega)) _ [] rfl ?_; intro w7 hown7 hgrow7; have hP7 : PB w7 pb p.f0 p.f1 p.f2 p.f3 := blk_grown hP4 hgrow7 (by simp only [ne_eq, Option.some.injEq]; omega); have j0 := hP7.c0; have j1 := hP7.c1; have j2 := hP7.c2; have HO7 := Aside0.mk hown7; have HB7 := Aside0.mk (HB4.out.grown hgrow7 HB4.out.size (fun b e => by cases e; exact Nat.le_refl _)); clear hown7 hgrow7))
              go_roundw
              case rel => exact ⟨n + 1, _, p.f0 :: seen, _, by omega, by go_num, rfl, HH1, HO7, ⟨HS.out.put p.f0⟩, HB7⟩
              case measure => simp [intOf]; omega
      · rw [if_pos hz] at hH; cases hH
    · obtain rfl : n = l.length := by omega
      have hltd : decide ((l.length : Int) < (l.length : Int)) = false := decide_eq_false (by omega)
      have hH := HH.out
      rw [List.drop_length, tailF] at hH
      obtain ⟨rfl, rfl⟩ := Prod.mk.inj (Option.some.inj hH)
      clear hH HH
      go_wp2
      go_ret2
      exact ⟨rfl, HB.out⟩
def sfitem_Tail.f (a0 : List S43) : Option (ByteArray × Int) := if a0.length ≤ 140737488355327 then tailF a0 [] ⟨#[]⟩ else none
theorem sfitem_Tail.calls (A0 : Option Addr) (c0 : Nat) (l0 : List S43) (r1 : ByteArray) (r2 : Int) (w : World) (hT_ : Aside0 (TabW w)) (hr0 : Kd.C k43 w A0 l0.length l0) (hc0 : l0.length ≤ c0) (h : sfitem_Tail.f l0 = some (r1, r2)) :
    Calls Tryz.prog 13 #[.slice A0 l0.length c0] w fun e w' => e = .returned (.tuple #[.string r1, .int .i64 r2]) ∧ Below w.heap.size w w' := by
  unfold sfitem_Tail.f at h
  by_cases hl : l0.length ≤ 140737488355327
  · rw [if_pos hl] at h
    exact Tail_calls A0 c0 l0 r1 r2 w hT_ hr0 hl h
  · rw [if_neg hl] at h; cases h
def sfitem_Text.f (a0_0 : Int) (a0_1 : Int) (a0_2 : ByteArray) (l0_3 : List (S43)) : Option (ByteArray × Int) := (sfitem_value.f (⟨#[]⟩ : ByteArray) a0_0 a0_1 a0_2).bind fun bt122 => ((sfitem_Tail.f l0_3).bind fun bt124 => (if bt122.2 = true then (if bt124.2 = 0 then (if bt122.1.size + bt124.1.size ≤ 9223372036854775807 then (some (bt122.1 ++ bt124.1, 0)) else (none)) else (some ((⟨#[]⟩ : ByteArray), 50))) else (some ((⟨#[]⟩ : ByteArray), 50))))
set_option maxHeartbeats 8000000 in
set_option maxRecDepth 100000 in
theorem sfitem_Text.calls (a0_0 : Int) (a0_1 : Int) (a0_2 : ByteArray) (A0_3 : Option Addr) (c0_3 : Nat) (l0_3 : List (S43)) (r1 : ByteArray) (r2 : Int) (w : World) (hT_ : Aside0 (TabW w)) (hr0_3 : Kd.C k43 w A0_3 l0_3.length l0_3) (hc0_3 : l0_3.length ≤ c0_3) (h : sfitem_Text.f a0_0 a0_1 a0_2 l0_3 = some (r1, r2)) :
    Calls Tryz.prog 11 #[.agg #[.int .i64 a0_0, .int .i64 a0_1, .string a0_2, .slice A0_3 l0_3.length c0_3]] w fun e w' => e = .returned (.tuple #[.string r1, .int .i64 r2]) ∧ Below w.heap.size w w' := by
  have hu25 := Tryz.underlying25
  have hu43 := Tryz.underlying43
  have HR0_3 := Aside0.mk hr0_3
  have HC0_3 := Aside0.mk hc0_3
  clear hr0_3 hc0_3
  have HB := Aside0.mk (Below.refl w.heap.size w)
  have H : ((sfitem_value.f (⟨#[]⟩ : ByteArray) a0_0 a0_1 a0_2).bind fun bt122 => ((sfitem_Tail.f l0_3).bind fun bt124 => (if bt122.2 = true then (if bt124.2 = 0 then (if bt122.1.size + bt124.1.size ≤ 9223372036854775807 then (some (bt122.1 ++ bt124.1, 0)) else (none)) else (some ((⟨#[]⟩ : ByteArray), 50))) else (some ((⟨#[]⟩ : ByteArray), 50))))) = some (r1, r2) := h
  clear h
  replace H := Option.bind_eq_some_iff.mp H
  obtain ⟨⟨t122, t123⟩, A20, H⟩ := H
  replace H : ((sfitem_Tail.f l0_3).bind fun bt124 => (if t123 = true then (if bt124.2 = 0 then (if t122.size + bt124.1.size ≤ 9223372036854775807 then (some (t122 ++ bt124.1, 0)) else (none)) else (some ((⟨#[]⟩ : ByteArray), 50))) else (some ((⟨#[]⟩ : ByteArray), 50)))) = some (r1, r2) := H
  have A2 := Aside0.mk A20
  clear A20
  replace H := Option.bind_eq_some_iff.mp H
  obtain ⟨⟨t124, t125⟩, A30, H⟩ := H
  replace H : (if t123 = true then (if t125 = 0 then (if t122.size + t124.size ≤ 9223372036854775807 then (some (t122 ++ t124, 0)) else (none)) else (some ((⟨#[]⟩ : ByteArray), 50))) else (some ((⟨#[]⟩ : ByteArray), 50))) = some (r1, r2) := H
  have A3 := Aside0.mk A30
  clear A30
  by_cases c4 : t123 = true
  · subst c4
    have H1 : (if t125 = 0 then (if t122.size + t124.size ≤ 9223372036854775807 then (some (t122 ++ t124, 0)) else (none)) else (some ((⟨#[]⟩ : ByteArray), 50))) = some (r1, r2) := by rw [if_pos rfl] at H; exact H
    clear H
    have H := H1
    clear H1
    by_cases c5 : t125 = 0
    · rw [if_pos c5] at H
      have c5b0 : (t125 == 0) = true := beq_iff_eq.mpr c5
      have c5b1 : (t125 != 0) = false := bne_eq_false_iff_eq.mpr c5
      clear c5
      by_cases c6 : t122.size + t124.size ≤ 9223372036854775807
      · rw [if_pos c6] at H
        have c6b0 := eq_true c6
        have c6b1 : decide (t122.size + t124.size ≤ 9223372036854775807) = true := decide_eq_true c6
        try have c6b2 : (9223372036854775807 < t122.size + t124.size) = False := eq_false (Nat.not_lt.2 c6)
        simp only [Option.some.injEq, Prod.mk.injEq] at H
        obtain ⟨rfl, rfl⟩ := H
        go_enter Tryz.func11, Tryz.ntmps11
        go_wp2_with (first | ((with_reducible refine gate_dst (N := 1) rfl ?_); refine box_event ?hg (N := 1) ?hd (cs := #[.int .i64 a0_0, .int .i64 a0_1, .string a0_2, .slice A0_3 l0_3.length c0_3]) (t := 25) ?hr ?_; (case hd => rfl); (case hg => rfl); (case hr => first | (go_simp; done) | (go_simp; rfl)); intro gb121 hg w7 hbox hb; have n0_ := Aside0.mk (below_step (by repeat (first | (with_reducible first | exact HB.out | apply below_alloc | apply pw_below_drewN | apply below_drew1) | exact HB.out)) hb); have n1_ := Aside0.mk (hbox); have n2_ := Aside0.mk ((by rw [hg]; exact (below_size (by repeat (first | (with_reducible first | exact HB.out | apply below_alloc | apply pw_below_drewN | apply below_drew1) | exact HB.out))) : w.heap.size ≤ gb121)); have n3_ := Aside0.mk ((by rw [hg]; exact (below_size (by repeat (first | (with_reducible first | exact HB.out | apply below_alloc | apply pw_below_drewN | apply below_drew1) | exact HB.out))) : w.heap.size ≤ gb121)); clear HB; have HB := n0_; have BK121 := n1_; have GW121 := n2_; have GE121 := n3_; clear n0_ n1_ n2_ n3_; clear hb hbox hg; have hcz8_0 : w7.cell? ⟨gb121, 0, none⟩ = some (.int .i64 a0_0) := (blk_cell BK121.out 0).trans rfl; have hcz8_1 : w7.cell? ⟨gb121, 1, none⟩ = some (.int .i64 a0_1) := (blk_cell BK121.out 1).trans rfl; have hcz8_2 : w7.cell? ⟨gb121, 2, none⟩ = some (.string a0_2) := (blk_cell BK121.out 2).trans rfl; have hcz8_3 : w7.cell? ⟨gb121, 3, none⟩ = some (.slice A0_3 l0_3.length c0_3) := (blk_cell BK121.out 3).trans rfl; have hfz8_0 := blk_frozen BK121.out 0; have hfz8_1 := blk_frozen BK121.out 1; have hfz8_2 := blk_frozen BK121.out 2; have hfz8_3 := blk_frozen BK121.out 3) | ((with_reducible refine gate_callee (f := 24) rfl ?_); refine goesL_ (some 16) rfl rfl Tryz.func24 (by kernel_rfl) rfl #[.agg #[.string (⟨#[]⟩ : ByteArray), .int .i64 a0_0, .int .i64 a0_1, .string a0_2]] rfl (by (try simp only [List.map_toArray, List.map_cons, List.map_nil]); first | done | rfl | (simp only [List.length_drop, List.length_take]; rfl)) ?_; (with_reducible refine (sfitem_value.calls (⟨#[]⟩ : ByteArray) a0_0 a0_1 a0_2 t122 true _ (tab_ hT_ ?hTab) A2.out).mono ?_); (case hTab => exact (by repeat (first | (with_reducible first | exact HB.out | apply below_alloc | apply pw_below_drewN | apply below_drew1 | refine below_set ?_ GE121.out) | exact HB.out))); rintro e w9 ⟨rfl, hb⟩; refine ⟨_, rfl, ?_⟩; have n0_ := Aside0.mk (blk_below (g := gb121) (o := .cells #[.int .i64 a0_0, .int .i64 a0_1, .string a0_2, .slice A0_3 l0_3.length c0_3] 25 (0, 0)) (by (with_reducible repeat (first | refine blk_drewN ?_ _ | refine blk_drew ?_ | refine blk_alloc ?_ _)); exact BK121.out) hb); have n1_ := Aside0.mk (below_step (by repeat (first | (with_reducible first | exact HB.out | apply below_alloc | apply pw_below_drewN | apply below_drew1 | refine below_set ?_ GE121.out) | exact HB.out)) hb); clear BK121; clear HB; have BK121 := n0_; have HB := n1_; clear n0_ n1_; (try clear hb); (try clear hb2); (try clear hk); (try clear hi); have hcz10_0 : w9.cell? ⟨gb121, 0, none⟩ = some (.int .i64 a0_0) := (blk_cell BK121.out 0).trans rfl; have hcz10_1 : w9.cell? ⟨gb121, 1, none⟩ = some (.int .i64 a0_1) := (blk_cell BK121.out 1).trans rfl; have hcz10_2 : w9.cell? ⟨gb121, 2, none⟩ = some (.string a0_2) := (blk_cell BK121.out 2).trans rfl; have hcz10_3 : w9.cell? ⟨gb121, 3, none⟩ = some (.slice A0_3 l0_3.length c0_3) := (blk_cell BK121.out 3).trans rfl; have hfz10_0 := blk_frozen BK121.out 0; have hfz10_1 := blk_frozen BK121.out 1; have hfz10_2 := blk_frozen BK121.out 2; have hfz10_3 := blk_frozen BK121.out 3) | ((with_reducible refine gate_callee (f := 13) rfl ?_); refine goesL_ (some 22) rfl rfl Tryz.func13 (by kernel_rfl) rfl #[.slice A0_3 l0_3.length c0_3] rfl (by (try simp only [List.map_toArray, List.map_cons, List.map_nil]); first | done | rfl | (simp only [List.length_drop, List.length_take]; rfl)) ?_; (with_reducible refine (sfitem_Tail.calls _ _ l0_3 t124 t125 _ (tab_ hT_ ?hTab) ?side1 ?side2 A3.out).mono ?_); (case hTab => exact (by repeat (first | (with_reducible first | exact HB.out | apply below_alloc | apply pw_below_drewN | apply below_drew1 | refine below_set ?_ GE121.out) | exact HB.out))); (case side1 => repeat (first | exact (Kd.C_below HR0_3.out HB.out) | (with_reducible refine Kd.C_alloc ?_ _) | (with_reducible refine Kd.C_drewN ?_ _) | (with_reducible refine Kd.C_drew ?_))); (case side2 => exact HC0_3.out); rintro e w11 ⟨rfl, hb⟩; refine ⟨_, rfl, ?_⟩; have n0_ := Aside0.mk (blk_below (g := gb121) (o := .cells #[.int .i64 a0_0, .int .i64 a0_1, .string a0_2, .slice A0_3 l0_3.length c0_3] 25 (0, 0)) (by (with_reducible repeat (first | refine blk_drewN ?_ _ | refine blk_drew ?_ | refine blk_alloc ?_ _)); exact BK121.out) hb); have n1_ := Aside0.mk (below_step (by repeat (first | (with_reducible first | exact HB.out | apply below_alloc | apply pw_below_drewN | apply below_drew1 | refine below_set ?_ GE121.out) | exact HB.out)) hb); clear BK121; clear HB; have BK121 := n0_; have HB := n1_; clear n0_ n1_; (try clear hb); (try clear hb2); (try clear hk); (try clear hi)))
        go_ret2
        exact ⟨by first | rfl | (simp [errW_none, errW_some] <;> rfl) | (simp [*, errW_none, errW_some] <;> rfl) | (simp [q_ne_nil]; done), by repeat (first | (with_reducible first | exact HB.out | apply below_alloc | apply pw_below_drewN | apply below_drew1 | refine below_set ?_ GE121.out) | exact HB.out)⟩
      · rw [if_neg c6] at H
        exact absurd H (by simp)
    · rw [if_neg c5] at H
      have c5b0 : (t125 == 0) = false := beq_eq_false_iff_ne.mpr c5
      have c5b1 : (t125 != 0) = true := bne_iff_ne.mpr c5
      simp only [Option.some.injEq, Prod.mk.injEq] at H
      obtain ⟨rfl, rfl⟩ := H
      go_enter Tryz.func11, Tryz.ntmps11
      go_wp2_with (first | ((with_reducible refine gate_dst (N := 1) rfl ?_); refine box_event ?hg (N := 1) ?hd (cs := #[.int .i64 a0_0, .int .i64 a0_1, .string a0_2, .slice A0_3 l0_3.length c0_3]) (t := 25) ?hr ?_; (case hd => rfl); (case hg => rfl); (case hr => first | (go_simp; done) | (go_simp; rfl)); intro gb121 hg w12 hbox hb; have n0_ := Aside0.mk (below_step (by repeat (first | (with_reducible first | exact HB.out | apply below_alloc | apply pw_below_drewN | apply below_drew1) | exact HB.out)) hb); have n1_ := Aside0.mk (hbox); have n2_ := Aside0.mk ((by rw [hg]; exact (below_size (by repeat (first | (with_reducible first | exact HB.out | apply below_alloc | apply pw_below_drewN | apply below_drew1) | exact HB.out))) : w.heap.size ≤ gb121)); have n3_ := Aside0.mk ((by rw [hg]; exact (below_size (by repeat (first | (with_reducible first | exact HB.out | apply below_alloc | apply pw_below_drewN | apply below_drew1) | exact HB.out))) : w.heap.size ≤ gb121)); clear HB; have HB := n0_; have BK121 := n1_; have GW121 := n2_; have GE121 := n3_; clear n0_ n1_ n2_ n3_; clear hb hbox hg; have hcz13_0 : w12.cell? ⟨gb121, 0, none⟩ = some (.int .i64 a0_0) := (blk_cell BK121.out 0).trans rfl; have hcz13_1 : w12.cell? ⟨gb121, 1, none⟩ = some (.int .i64 a0_1) := (blk_cell BK121.out 1).trans rfl; have hcz13_2 : w12.cell? ⟨gb121, 2, none⟩ = some (.string a0_2) := (blk_cell BK121.out 2).trans rfl; have hcz13_3 : w12.cell? ⟨gb121, 3, none⟩ = some (.slice A0_3 l0_3.length c0_3) := (blk_cell BK121.out 3).trans rfl; have hfz13_0 := blk_frozen BK121.out 0; have hfz13_1 := blk_frozen BK121.out 1; have hfz13_2 := blk_frozen BK121.out 2; have hfz13_3 := blk_frozen BK121.out 3) | ((with_reducible refine gate_callee (f := 24) rfl ?_); refine goesL_ (some 16) rfl rfl Tryz.func24 (by kernel_rfl) rfl #[.agg #[.string (⟨#[]⟩ : ByteArray), .int .i64 a0_0, .int .i64 a0_1, .string a0_2]] rfl (by (try simp only [List.map_toArray, List.map_cons, List.map_nil]); first | done | rfl | (simp only [List.length_drop, List.length_take]; rfl)) ?_; (with_reducible refine (sfitem_value.calls (⟨#[]⟩ : ByteArray) a0_0 a0_1 a0_2 t122 true _ (tab_ hT_ ?hTab) A2.out).mono ?_); (case hTab => exact (by repeat (first | (with_reducible first | exact HB.out | apply below_alloc | apply pw_below_drewN | apply below_drew1 | refine below_set ?_ GE121.out) | exact HB.out))); rintro e w14 ⟨rfl, hb⟩; refine ⟨_, rfl, ?_⟩; have n0_ := Aside0.mk (blk_below (g := gb121) (o := .cells #[.int .i64 a0_0, .int .i64 a0_1, .string a0_2, .slice A0_3 l0_3.length c0_3] 25 (0, 0)) (by (with_reducible repeat (first | refine blk_drewN ?_ _ | refine blk_drew ?_ | refine blk_alloc ?_ _)); exact BK121.out) hb); have n1_ := Aside0.mk (below_step (by repeat (first | (with_reducible first | exact HB.out | apply below_alloc | apply pw_below_drewN | apply below_drew1 | refine below_set ?_ GE121.out) | exact HB.out)) hb); clear BK121; clear HB; have BK121 := n0_; have HB := n1_; clear n0_ n1_; (try clear hb); (try clear hb2); (try clear hk); (try clear hi); have hcz15_0 : w14.cell? ⟨gb121, 0, none⟩ = some (.int .i64 a0_0) := (blk_cell BK121.out 0).trans rfl; have hcz15_1 : w14.cell? ⟨gb121, 1, none⟩ = some (.int .i64 a0_1) := (blk_cell BK121.out 1).trans rfl; have hcz15_2 : w14.cell? ⟨gb121, 2, none⟩ = some (.string a0_2) := (blk_cell BK121.out 2).trans rfl; have hcz15_3 : w14.cell? ⟨gb121, 3, none⟩ = some (.slice A0_3 l0_3.length c0_3) := (blk_cell BK121.out 3).trans rfl; have hfz15_0 := blk_frozen BK121.out 0; have hfz15_1 := blk_frozen BK121.out 1; have hfz15_2 := blk_frozen BK121.out 2; have hfz15_3 := blk_frozen BK121.out 3) | ((with_reducible refine gate_callee (f := 13) rfl ?_); refine goesL_ (some 22) rfl rfl Tryz.func13 (by kernel_rfl) rfl #[.slice A0_3 l0_3.length c0_3] rfl (by (try simp only [List.map_toArray, List.map_cons, List.map_nil]); first | done | rfl | (simp only [List.length_drop, List.length_take]; rfl)) ?_; (with_reducible refine (sfitem_Tail.calls _ _ l0_3 t124 t125 _ (tab_ hT_ ?hTab) ?side1 ?side2 A3.out).mono ?_); (case hTab => exact (by repeat (first | (with_reducible first | exact HB.out | apply below_alloc | apply pw_below_drewN | apply below_drew1 | refine below_set ?_ GE121.out) | exact HB.out))); (case side1 => repeat (first | exact (Kd.C_below HR0_3.out HB.out) | (with_reducible refine Kd.C_alloc ?_ _) | (with_reducible refine Kd.C_drewN ?_ _) | (with_reducible refine Kd.C_drew ?_))); (case side2 => exact HC0_3.out); rintro e w16 ⟨rfl, hb⟩; refine ⟨_, rfl, ?_⟩; have n0_ := Aside0.mk (blk_below (g := gb121) (o := .cells #[.int .i64 a0_0, .int .i64 a0_1, .string a0_2, .slice A0_3 l0_3.length c0_3] 25 (0, 0)) (by (with_reducible repeat (first | refine blk_drewN ?_ _ | refine blk_drew ?_ | refine blk_alloc ?_ _)); exact BK121.out) hb); have n1_ := Aside0.mk (below_step (by repeat (first | (with_reducible first | exact HB.out | apply below_alloc | apply pw_below_drewN | apply below_drew1 | refine below_set ?_ GE121.out) | exact HB.out)) hb); clear BK121; clear HB; have BK121 := n0_; have HB := n1_; clear n0_ n1_; (try clear hb); (try clear hb2); (try clear hk); (try clear hi)))
      go_ret2
      exact ⟨by first | rfl | (simp [errW_none, errW_some] <;> rfl) | (simp [*, errW_none, errW_some] <;> rfl) | (simp [q_ne_nil]; done), by repeat (first | (with_reducible first | exact HB.out | apply below_alloc | apply pw_below_drewN | apply below_drew1 | refine below_set ?_ GE121.out) | exact HB.out)⟩
  · replace c4 := Bool.eq_false_iff.mpr c4
    subst c4
    have H1 : (some ((⟨#[]⟩ : ByteArray), 50)) = some (r1, r2) := by rw [if_neg (show ¬ (false = true) by decide)] at H; exact H
    clear H
    have H := H1
    clear H1
    simp only [Option.some.injEq, Prod.mk.injEq] at H
    obtain ⟨rfl, rfl⟩ := H
    go_enter Tryz.func11, Tryz.ntmps11
    go_wp2_with (first | ((with_reducible refine gate_dst (N := 1) rfl ?_); refine box_event ?hg (N := 1) ?hd (cs := #[.int .i64 a0_0, .int .i64 a0_1, .string a0_2, .slice A0_3 l0_3.length c0_3]) (t := 25) ?hr ?_; (case hd => rfl); (case hg => rfl); (case hr => first | (go_simp; done) | (go_simp; rfl)); intro gb121 hg w17 hbox hb; have n0_ := Aside0.mk (below_step (by repeat (first | (with_reducible first | exact HB.out | apply below_alloc | apply pw_below_drewN | apply below_drew1) | exact HB.out)) hb); have n1_ := Aside0.mk (hbox); have n2_ := Aside0.mk ((by rw [hg]; exact (below_size (by repeat (first | (with_reducible first | exact HB.out | apply below_alloc | apply pw_below_drewN | apply below_drew1) | exact HB.out))) : w.heap.size ≤ gb121)); have n3_ := Aside0.mk ((by rw [hg]; exact (below_size (by repeat (first | (with_reducible first | exact HB.out | apply below_alloc | apply pw_below_drewN | apply below_drew1) | exact HB.out))) : w.heap.size ≤ gb121)); clear HB; have HB := n0_; have BK121 := n1_; have GW121 := n2_; have GE121 := n3_; clear n0_ n1_ n2_ n3_; clear hb hbox hg; have hcz18_0 : w17.cell? ⟨gb121, 0, none⟩ = some (.int .i64 a0_0) := (blk_cell BK121.out 0).trans rfl; have hcz18_1 : w17.cell? ⟨gb121, 1, none⟩ = some (.int .i64 a0_1) := (blk_cell BK121.out 1).trans rfl; have hcz18_2 : w17.cell? ⟨gb121, 2, none⟩ = some (.string a0_2) := (blk_cell BK121.out 2).trans rfl; have hcz18_3 : w17.cell? ⟨gb121, 3, none⟩ = some (.slice A0_3 l0_3.length c0_3) := (blk_cell BK121.out 3).trans rfl; have hfz18_0 := blk_frozen BK121.out 0; have hfz18_1 := blk_frozen BK121.out 1; have hfz18_2 := blk_frozen BK121.out 2; have hfz18_3 := blk_frozen BK121.out 3) | ((with_reducible refine gate_callee (f := 24) rfl ?_); refine goesL_ (some 16) rfl rfl Tryz.func24 (by kernel_rfl) rfl #[.agg #[.string (⟨#[]⟩ : ByteArray), .int .i64 a0_0, .int .i64 a0_1, .string a0_2]] rfl (by (try simp only [List.map_toArray, List.map_cons, List.map_nil]); first | done | rfl | (simp only [List.length_drop, List.length_take]; rfl)) ?_; (with_reducible refine (sfitem_value.calls (⟨#[]⟩ : ByteArray) a0_0 a0_1 a0_2 t122 false _ (tab_ hT_ ?hTab) A2.out).mono ?_); (case hTab => exact (by repeat (first | (with_reducible first | exact HB.out | apply below_alloc | apply pw_below_drewN | apply below_drew1 | refine below_set ?_ GE121.out) | exact HB.out))); rintro e w19 ⟨rfl, hb⟩; refine ⟨_, rfl, ?_⟩; have n0_ := Aside0.mk (blk_below (g := gb121) (o := .cells #[.int .i64 a0_0, .int .i64 a0_1, .string a0_2, .slice A0_3 l0_3.length c0_3] 25 (0, 0)) (by (with_reducible repeat (first | refine blk_drewN ?_ _ | refine blk_drew ?_ | refine blk_alloc ?_ _)); exact BK121.out) hb); have n1_ := Aside0.mk (below_step (by repeat (first | (with_reducible first | exact HB.out | apply below_alloc | apply pw_below_drewN | apply below_drew1 | refine below_set ?_ GE121.out) | exact HB.out)) hb); clear BK121; clear HB; have BK121 := n0_; have HB := n1_; clear n0_ n1_; (try clear hb); (try clear hb2); (try clear hk); (try clear hi); have hcz20_0 : w19.cell? ⟨gb121, 0, none⟩ = some (.int .i64 a0_0) := (blk_cell BK121.out 0).trans rfl; have hcz20_1 : w19.cell? ⟨gb121, 1, none⟩ = some (.int .i64 a0_1) := (blk_cell BK121.out 1).trans rfl; have hcz20_2 : w19.cell? ⟨gb121, 2, none⟩ = some (.string a0_2) := (blk_cell BK121.out 2).trans rfl; have hcz20_3 : w19.cell? ⟨gb121, 3, none⟩ = some (.slice A0_3 l0_3.length c0_3) := (blk_cell BK121.out 3).trans rfl; have hfz20_0 := blk_frozen BK121.out 0; have hfz20_1 := blk_frozen BK121.out 1; have hfz20_2 := blk_frozen BK121.out 2; have hfz20_3 := blk_frozen BK121.out 3) | ((with_reducible refine gate_callee (f := 13) rfl ?_); refine goesL_ (some 22) rfl rfl Tryz.func13 (by kernel_rfl) rfl #[.slice A0_3 l0_3.length c0_3] rfl (by (try simp only [List.map_toArray, List.map_cons, List.map_nil]); first | done | rfl | (simp only [List.length_drop, List.length_take]; rfl)) ?_; (with_reducible refine (sfitem_Tail.calls _ _ l0_3 t124 t125 _ (tab_ hT_ ?hTab) ?side1 ?side2 A3.out).mono ?_); (case hTab => exact (by repeat (first | (with_reducible first | exact HB.out | apply below_alloc | apply pw_below_drewN | apply below_drew1 | refine below_set ?_ GE121.out) | exact HB.out))); (case side1 => repeat (first | exact (Kd.C_below HR0_3.out HB.out) | (with_reducible refine Kd.C_alloc ?_ _) | (with_reducible refine Kd.C_drewN ?_ _) | (with_reducible refine Kd.C_drew ?_))); (case side2 => exact HC0_3.out); rintro e w21 ⟨rfl, hb⟩; refine ⟨_, rfl, ?_⟩; have n0_ := Aside0.mk (blk_below (g := gb121) (o := .cells #[.int .i64 a0_0, .int .i64 a0_1, .string a0_2, .slice A0_3 l0_3.length c0_3] 25 (0, 0)) (by (with_reducible repeat (first | refine blk_drewN ?_ _ | refine blk_drew ?_ | refine blk_alloc ?_ _)); exact BK121.out) hb); have n1_ := Aside0.mk (below_step (by repeat (first | (with_reducible first | exact HB.out | apply below_alloc | apply pw_below_drewN | apply below_drew1 | refine below_set ?_ GE121.out) | exact HB.out)) hb); clear BK121; clear HB; have BK121 := n0_; have HB := n1_; clear n0_ n1_; (try clear hb); (try clear hb2); (try clear hk); (try clear hi)))
    go_ret2
    exact ⟨by first | rfl | (simp [errW_none, errW_some] <;> rfl) | (simp [*, errW_none, errW_some] <;> rfl) | (simp [q_ne_nil]; done), by repeat (first | (with_reducible first | exact HB.out | apply below_alloc | apply pw_below_drewN | apply below_drew1 | refine below_set ?_ GE121.out) | exact HB.out)⟩
def glacislaw05_awake.f  : Option (Bool) := (sfitem_Parse.f (⟨#[115, 97, 109, 101, 45, 111, 114, 105, 103, 105, 110, 59, 32, 114, 101, 112, 111, 114, 116, 45, 116, 111, 61, 34, 101, 34]⟩ : ByteArray)).bind fun bt126 => ((sfitem_Parse.f (⟨#[45, 49, 50, 46, 53, 48, 59, 97, 59, 98, 61, 63, 48]⟩ : ByteArray)).bind fun bt134 => ((sfitem_Text.f bt134.1 bt134.2.1 bt134.2.2.1 bt134.2.2.2.1).bind fun bt142 => ((sfitem_Parse.f (⟨#[49, 32, 50]⟩ : ByteArray)).bind fun bt144 => (if (bt126.2.2.2.1.length : Int) = 1 then (if bt126.1 = 4 then (if bt126.2.2.1.toList = ([115, 97, 109, 101, 45, 111, 114, 105, 103, 105, 110] : List UInt8) then (if 0 < (bt126.2.2.2.1.length : Int) then (if ((((rd_T43 bt126.2.2.2.1 0).f0).toList) == ([114, 101, 112, 111, 114, 116, 45, 116, 111] : List UInt8) && (((rd_T43 bt126.2.2.2.1 0).f1) == 3 && (((rd_T43 bt126.2.2.2.1 0).f2) == 0 && ((((rd_T43 bt126.2.2.2.1 0).f3).toList) == ([101] : List UInt8))))) = true then (if bt126.2.2.2.2 = 0 then (if bt134.2.2.2.2 = 0 then (if bt142.1.toList = ([45, 49, 50, 46, 53, 59, 97, 59, 98, 61, 63, 48] : List UInt8) then (if bt142.2 = 0 then (some (bt144.2.2.2.2 == 50)) else (none)) else (none)) else (none)) else (none)) else (none)) else (none)) else (none)) else (none)) else (none)))))
set_option maxHeartbeats 8000000 in
set_option maxRecDepth 100000 in
theorem glacislaw05_awake.calls  (r : Bool) (w : World) (hT_ : Aside0 (TabW w)) (h : glacislaw05_awake.f  = some r) :
    Calls Tryz.prog 6 #[] w fun e w' => e = .returned (.bool r) ∧ Below w.heap.size w w' := by
  have hu25 := Tryz.underlying25
  have hu43 := Tryz.underlying43
  have HB := Aside0.mk (Below.refl w.heap.size w)
  have H : ((sfitem_Parse.f (⟨#[115, 97, 109, 101, 45, 111, 114, 105, 103, 105, 110, 59, 32, 114, 101, 112, 111, 114, 116, 45, 116, 111, 61, 34, 101, 34]⟩ : ByteArray)).bind fun bt126 => ((sfitem_Parse.f (⟨#[45, 49, 50, 46, 53, 48, 59, 97, 59, 98, 61, 63, 48]⟩ : ByteArray)).bind fun bt134 => ((sfitem_Text.f bt134.1 bt134.2.1 bt134.2.2.1 bt134.2.2.2.1).bind fun bt142 => ((sfitem_Parse.f (⟨#[49, 32, 50]⟩ : ByteArray)).bind fun bt144 => (if (bt126.2.2.2.1.length : Int) = 1 then (if bt126.1 = 4 then (if bt126.2.2.1.toList = ([115, 97, 109, 101, 45, 111, 114, 105, 103, 105, 110] : List UInt8) then (if 0 < (bt126.2.2.2.1.length : Int) then (if ((((rd_T43 bt126.2.2.2.1 0).f0).toList) == ([114, 101, 112, 111, 114, 116, 45, 116, 111] : List UInt8) && (((rd_T43 bt126.2.2.2.1 0).f1) == 3 && (((rd_T43 bt126.2.2.2.1 0).f2) == 0 && ((((rd_T43 bt126.2.2.2.1 0).f3).toList) == ([101] : List UInt8))))) = true then (if bt126.2.2.2.2 = 0 then (if bt134.2.2.2.2 = 0 then (if bt142.1.toList = ([45, 49, 50, 46, 53, 59, 97, 59, 98, 61, 63, 48] : List UInt8) then (if bt142.2 = 0 then (some (bt144.2.2.2.2 == 50)) else (none)) else (none)) else (none)) else (none)) else (none)) else (none)) else (none)) else (none)) else (none)))))) = some r := h
  clear h
  replace H := Option.bind_eq_some_iff.mp H
  obtain ⟨⟨t126, t127, t128, t129, t132⟩, A10, H⟩ := H
  replace H : ((sfitem_Parse.f (⟨#[45, 49, 50, 46, 53, 48, 59, 97, 59, 98, 61, 63, 48]⟩ : ByteArray)).bind fun bt134 => ((sfitem_Text.f bt134.1 bt134.2.1 bt134.2.2.1 bt134.2.2.2.1).bind fun bt142 => ((sfitem_Parse.f (⟨#[49, 32, 50]⟩ : ByteArray)).bind fun bt144 => (if (t129.length : Int) = 1 then (if t126 = 4 then (if t128.toList = ([115, 97, 109, 101, 45, 111, 114, 105, 103, 105, 110] : List UInt8) then (if 0 < (t129.length : Int) then (if ((((rd_T43 t129 0).f0).toList) == ([114, 101, 112, 111, 114, 116, 45, 116, 111] : List UInt8) && (((rd_T43 t129 0).f1) == 3 && (((rd_T43 t129 0).f2) == 0 && ((((rd_T43 t129 0).f3).toList) == ([101] : List UInt8))))) = true then (if t132 = 0 then (if bt134.2.2.2.2 = 0 then (if bt142.1.toList = ([45, 49, 50, 46, 53, 59, 97, 59, 98, 61, 63, 48] : List UInt8) then (if bt142.2 = 0 then (some (bt144.2.2.2.2 == 50)) else (none)) else (none)) else (none)) else (none)) else (none)) else (none)) else (none)) else (none)) else (none))))) = some r := H
  have A1 := Aside0.mk A10
  clear A10
  replace H := Option.bind_eq_some_iff.mp H
  obtain ⟨⟨t134, t135, t136, t137, t140⟩, A20, H⟩ := H
  replace H : ((sfitem_Text.f t134 t135 t136 t137).bind fun bt142 => ((sfitem_Parse.f (⟨#[49, 32, 50]⟩ : ByteArray)).bind fun bt144 => (if (t129.length : Int) = 1 then (if t126 = 4 then (if t128.toList = ([115, 97, 109, 101, 45, 111, 114, 105, 103, 105, 110] : List UInt8) then (if 0 < (t129.length : Int) then (if ((((rd_T43 t129 0).f0).toList) == ([114, 101, 112, 111, 114, 116, 45, 116, 111] : List UInt8) && (((rd_T43 t129 0).f1) == 3 && (((rd_T43 t129 0).f2) == 0 && ((((rd_T43 t129 0).f3).toList) == ([101] : List UInt8))))) = true then (if t132 = 0 then (if t140 = 0 then (if bt142.1.toList = ([45, 49, 50, 46, 53, 59, 97, 59, 98, 61, 63, 48] : List UInt8) then (if bt142.2 = 0 then (some (bt144.2.2.2.2 == 50)) else (none)) else (none)) else (none)) else (none)) else (none)) else (none)) else (none)) else (none)) else (none)))) = some r := H
  have A2 := Aside0.mk A20
  clear A20
  replace H := Option.bind_eq_some_iff.mp H
  obtain ⟨⟨t142, t143⟩, A30, H⟩ := H
  replace H : ((sfitem_Parse.f (⟨#[49, 32, 50]⟩ : ByteArray)).bind fun bt144 => (if (t129.length : Int) = 1 then (if t126 = 4 then (if t128.toList = ([115, 97, 109, 101, 45, 111, 114, 105, 103, 105, 110] : List UInt8) then (if 0 < (t129.length : Int) then (if ((((rd_T43 t129 0).f0).toList) == ([114, 101, 112, 111, 114, 116, 45, 116, 111] : List UInt8) && (((rd_T43 t129 0).f1) == 3 && (((rd_T43 t129 0).f2) == 0 && ((((rd_T43 t129 0).f3).toList) == ([101] : List UInt8))))) = true then (if t132 = 0 then (if t140 = 0 then (if t142.toList = ([45, 49, 50, 46, 53, 59, 97, 59, 98, 61, 63, 48] : List UInt8) then (if t143 = 0 then (some (bt144.2.2.2.2 == 50)) else (none)) else (none)) else (none)) else (none)) else (none)) else (none)) else (none)) else (none)) else (none))) = some r := H
  have A3 := Aside0.mk A30
  clear A30
  replace H := Option.bind_eq_some_iff.mp H
  obtain ⟨⟨t144, t145, t146, t147, t150⟩, A40, H⟩ := H
  replace H : (if (t129.length : Int) = 1 then (if t126 = 4 then (if t128.toList = ([115, 97, 109, 101, 45, 111, 114, 105, 103, 105, 110] : List UInt8) then (if 0 < (t129.length : Int) then (if ((((rd_T43 t129 0).f0).toList) == ([114, 101, 112, 111, 114, 116, 45, 116, 111] : List UInt8) && (((rd_T43 t129 0).f1) == 3 && (((rd_T43 t129 0).f2) == 0 && ((((rd_T43 t129 0).f3).toList) == ([101] : List UInt8))))) = true then (if t132 = 0 then (if t140 = 0 then (if t142.toList = ([45, 49, 50, 46, 53, 59, 97, 59, 98, 61, 63, 48] : List UInt8) then (if t143 = 0 then (some (t150 == 50)) else (none)) else (none)) else (none)) else (none)) else (none)) else (none)) else (none)) else (none)) else (none)) = some r := H
  have A4 := Aside0.mk A40
  clear A40
  by_cases c5 : (t129.length : Int) = 1
  · rw [if_pos c5] at H
    have c5b0 : ((t129.length : Int) == 1) = true := beq_iff_eq.mpr c5
    have c5b1 : ((t129.length : Int) != 1) = false := bne_eq_false_iff_eq.mpr c5
    clear c5
    by_cases c6 : t126 = 4
    · rw [if_pos c6] at H
      have c6b0 : (t126 == 4) = true := beq_iff_eq.mpr c6
      have c6b1 : (t126 != 4) = false := bne_eq_false_iff_eq.mpr c6
      clear c6
      by_cases c7 : t128.toList = ([115, 97, 109, 101, 45, 111, 114, 105, 103, 105, 110] : List UInt8)
      · rw [if_pos c7] at H
        have c7b0 : (t128.toList == ([115, 97, 109, 101, 45, 111, 114, 105, 103, 105, 110] : List UInt8)) = true := beq_iff_eq.mpr c7
        have c7b1 : (t128.toList != ([115, 97, 109, 101, 45, 111, 114, 105, 103, 105, 110] : List UInt8)) = false := bne_eq_false_iff_eq.mpr c7
        clear c7
        by_cases c8 : 0 < (t129.length : Int)
        · rw [if_pos c8] at H
          have c8b0 : decide (0 < (t129.length : Int)) = true := decide_eq_true c8
          have c8b1 : decide (0 < t129.length) = true := decide_eq_true (by omega)
          clear c8
          by_cases c9 : ((((rd_T43 t129 0).f0).toList) == ([114, 101, 112, 111, 114, 116, 45, 116, 111] : List UInt8) && (((rd_T43 t129 0).f1) == 3 && (((rd_T43 t129 0).f2) == 0 && ((((rd_T43 t129 0).f3).toList) == ([101] : List UInt8))))) = true
          · rw [if_pos c9] at H
            have c9b0 : ((((rd_T43 t129 0).f0).toList) == ([114, 101, 112, 111, 114, 116, 45, 116, 111] : List UInt8) && (((rd_T43 t129 0).f1) == 3 && (((rd_T43 t129 0).f2) == 0 && ((((rd_T43 t129 0).f3).toList) == ([101] : List UInt8))))) = true := c9
            (try (have c9b1 : decide ((((rd_T43 t129 0).f0).toList) = ([114, 101, 112, 111, 114, 116, 45, 116, 111] : List UInt8) && (((rd_T43 t129 0).f1) == 3 && (((rd_T43 t129 0).f2) == 0 && ((((rd_T43 t129 0).f3).toList) == ([101] : List UInt8))))) = true := by simpa using c9))
            (try (have c9b2 : ((((rd_T43 t129 0).f0).toList) == ([114, 101, 112, 111, 114, 116, 45, 116, 111] : List UInt8) && (((rd_T43 t129 0).f1) == 3 && (((rd_T43 t129 0).f2) == 0 && ((((rd_T43 t129 0).f3).toList) == ([101] : List UInt8))))) = true := by simpa using c9))
            clear c9
            by_cases c10 : t132 = 0
            · rw [if_pos c10] at H
              have c10b0 : (t132 == 0) = true := beq_iff_eq.mpr c10
              have c10b1 : (t132 != 0) = false := bne_eq_false_iff_eq.mpr c10
              clear c10
              by_cases c11 : t140 = 0
              · rw [if_pos c11] at H
                have c11b0 : (t140 == 0) = true := beq_iff_eq.mpr c11
                have c11b1 : (t140 != 0) = false := bne_eq_false_iff_eq.mpr c11
                clear c11
                by_cases c12 : t142.toList = ([45, 49, 50, 46, 53, 59, 97, 59, 98, 61, 63, 48] : List UInt8)
                · rw [if_pos c12] at H
                  have c12b0 : (t142.toList == ([45, 49, 50, 46, 53, 59, 97, 59, 98, 61, 63, 48] : List UInt8)) = true := beq_iff_eq.mpr c12
                  have c12b1 : (t142.toList != ([45, 49, 50, 46, 53, 59, 97, 59, 98, 61, 63, 48] : List UInt8)) = false := bne_eq_false_iff_eq.mpr c12
                  clear c12
                  by_cases c13 : t143 = 0
                  · rw [if_pos c13] at H
                    have c13b0 : (t143 == 0) = true := beq_iff_eq.mpr c13
                    have c13b1 : (t143 != 0) = false := bne_eq_false_iff_eq.mpr c13
                    clear c13
                    obtain rfl := Option.some.inj H
                    go_enter Tryz.func6, Tryz.ntmps6
                    go_wp2_with (first | ((with_reducible refine gate_callee (f := 7) rfl ?_); refine goesL_ (some 10) rfl rfl Tryz.func7 (by kernel_rfl) rfl #[.string (⟨#[115, 97, 109, 101, 45, 111, 114, 105, 103, 105, 110, 59, 32, 114, 101, 112, 111, 114, 116, 45, 116, 111, 61, 34, 101, 34]⟩ : ByteArray)] rfl (by (try simp only [List.map_toArray, List.map_cons, List.map_nil]); first | done | rfl | (simp only [List.length_drop, List.length_take]; rfl)) ?_; (with_reducible refine (sfitem_Parse.calls (⟨#[115, 97, 109, 101, 45, 111, 114, 105, 103, 105, 110, 59, 32, 114, 101, 112, 111, 114, 116, 45, 116, 111, 61, 34, 101, 34]⟩ : ByteArray) t126 t127 t128 t129 t132 _ A1.out).mono ?_); rintro e w14 ⟨v130, rfl, ho0, hb⟩; refine ⟨_, rfl, ?_⟩; have n0_ := Aside0.mk (Kd.R_lower ho0 (below_size (by repeat (first | (with_reducible first | exact HB.out | apply below_alloc | apply pw_below_drewN | apply below_drew1) | exact HB.out)))); have n1_ := Aside0.mk (below_step (by repeat (first | (with_reducible first | exact HB.out | apply below_alloc | apply pw_below_drewN | apply below_drew1) | exact HB.out)) hb); clear HB; have HO131 := n0_; have HB := n1_; clear n0_ n1_; (try clear hb); (try clear hb2); (try clear hk); (try clear hi); (try clear ho0)) | ((with_reducible refine gate_dst (N := 1) rfl ?_); refine box_event ?hg (N := 1) ?hd (cs := #[.int .i64 0, .int .i64 0, .string (⟨#[]⟩ : ByteArray), .slice none 0 0]) (t := 25) ?hr ?_; (case hd => rfl); (case hg => rfl); (case hr => first | (go_simp; done) | (go_simp; rfl)); intro gb133 hg w15 hbox hb; have n0_ := Aside0.mk (Kd.R_below (by (with_reducible repeat (first | apply Kd.R_alloc | apply Kd.R_drewN | apply Kd.R_drew)); exact HO131.out) hb); have n1_ := Aside0.mk (below_step (by repeat (first | (with_reducible first | exact HB.out | apply below_alloc | apply pw_below_drewN | apply below_drew1) | exact HB.out)) hb); have n2_ := Aside0.mk (hbox); have n3_ := Aside0.mk ((by rw [hg]; exact (below_size (by repeat (first | (with_reducible first | exact HB.out | apply below_alloc | apply pw_below_drewN | apply below_drew1) | exact HB.out))) : w.heap.size ≤ gb133)); have n4_ := Aside0.mk ((by rw [hg]; exact (below_size (by repeat (first | (with_reducible first | exact HB.out | apply below_alloc | apply pw_below_drewN | apply below_drew1) | exact HB.out))) : w.heap.size ≤ gb133)); clear HO131; clear HB; have HO131 := n0_; have HB := n1_; have BK133 := n2_; have GW133 := n3_; have GE133 := n4_; clear n0_ n1_ n2_ n3_ n4_; clear hb hbox hg; have hcz16_0 : w15.cell? ⟨gb133, 0, none⟩ = some (.int .i64 0) := (blk_cell BK133.out 0).trans rfl; have hcz16_1 : w15.cell? ⟨gb133, 1, none⟩ = some (.int .i64 0) := (blk_cell BK133.out 1).trans rfl; have hcz16_2 : w15.cell? ⟨gb133, 2, none⟩ = some (.string (⟨#[]⟩ : ByteArray)) := (blk_cell BK133.out 2).trans rfl; have hcz16_3 : w15.cell? ⟨gb133, 3, none⟩ = some (.slice none 0 0) := (blk_cell BK133.out 3).trans rfl; have hfz16_0 := blk_frozen BK133.out 0; have hfz16_1 := blk_frozen BK133.out 1; have hfz16_2 := blk_frozen BK133.out 2; have hfz16_3 := blk_frozen BK133.out 3; obtain ⟨Ao17, co17, eo17⟩ := Kd.R_slice HO131.out; subst eo17) | ((with_reducible refine gate_callee (f := 7) rfl ?_); refine goesL_ (some 14) rfl rfl Tryz.func7 (by kernel_rfl) rfl #[.string (⟨#[45, 49, 50, 46, 53, 48, 59, 97, 59, 98, 61, 63, 48]⟩ : ByteArray)] rfl (by (try simp only [List.map_toArray, List.map_cons, List.map_nil]); first | done | rfl | (simp only [List.length_drop, List.length_take]; rfl)) ?_; (with_reducible refine (sfitem_Parse.calls (⟨#[45, 49, 50, 46, 53, 48, 59, 97, 59, 98, 61, 63, 48]⟩ : ByteArray) t134 t135 t136 t137 t140 _ A2.out).mono ?_); rintro e w18 ⟨v138, rfl, ho0, hb⟩; refine ⟨_, rfl, ?_⟩; have n0_ := Aside0.mk (Kd.R_elder' (by (with_reducible repeat (first | apply Kd.R_alloc | apply Kd.R_drewN | apply Kd.R_drew)); exact (Kd.R_mono (Kd.R_far (p := ⟨gb133, 3, none⟩) (Kd.R_far (p := ⟨gb133, 2, none⟩) (Kd.R_far (p := ⟨gb133, 1, none⟩) (Kd.R_far (p := ⟨gb133, 0, none⟩) (Kd.R_types HO131.out BK133.out (by decide)) (fun _ hk => hk.2) (.int .i64 t126)) (fun _ hk => hk.2) (.int .i64 t127)) (fun _ hk => hk.2) (.string t128)) (fun _ hk => hk.2) (.slice Ao17 t129.length co17)) (fun _ h_ => h_.1))) (Kd.R_base ho0) hb); have n1_ := Aside0.mk (Kd.R_lower (Kd.R_new' ho0 (Kd.R_lt (by (with_reducible repeat (first | apply Kd.R_alloc | apply Kd.R_drewN | apply Kd.R_drew)); exact (Kd.R_mono (Kd.R_far (p := ⟨gb133, 3, none⟩) (Kd.R_far (p := ⟨gb133, 2, none⟩) (Kd.R_far (p := ⟨gb133, 1, none⟩) (Kd.R_far (p := ⟨gb133, 0, none⟩) (Kd.R_types HO131.out BK133.out (by decide)) (fun _ hk => hk.2) (.int .i64 t126)) (fun _ hk => hk.2) (.int .i64 t127)) (fun _ hk => hk.2) (.string t128)) (fun _ hk => hk.2) (.slice Ao17 t129.length co17)) (fun _ h_ => h_.1))))) (below_size (by repeat (first | (with_reducible first | exact HB.out | apply below_alloc | apply pw_below_drewN | apply below_drew1 | refine below_set ?_ GE133.out) | exact HB.out)))); have n2_ := Aside0.mk (blk_below (g := gb133) (o := .cells #[.int .i64 t126, .int .i64 t127, .string t128, .slice Ao17 t129.length co17] 25 (0, 0)) (by (with_reducible repeat (first | refine blk_drewN ?_ _ | refine blk_drew ?_ | refine blk_alloc ?_ _)); refine blk_put (cs := #[.int .i64 t126, .int .i64 t127, .string t128, .slice none 0 0]) ?_ 3 _ rfl; (with_reducible repeat (first | refine blk_drewN ?_ _ | refine blk_drew ?_ | refine blk_alloc ?_ _)); refine blk_put (cs := #[.int .i64 t126, .int .i64 t127, .string (⟨#[]⟩ : ByteArray), .slice none 0 0]) ?_ 2 _ rfl; (with_reducible repeat (first | refine blk_drewN ?_ _ | refine blk_drew ?_ | refine blk_alloc ?_ _)); refine blk_put (cs := #[.int .i64 t126, .int .i64 0, .string (⟨#[]⟩ : ByteArray), .slice none 0 0]) ?_ 1 _ rfl; (with_reducible repeat (first | refine blk_drewN ?_ _ | refine blk_drew ?_ | refine blk_alloc ?_ _)); refine blk_put (cs := #[.int .i64 0, .int .i64 0, .string (⟨#[]⟩ : ByteArray), .slice none 0 0]) ?_ 0 _ rfl; (with_reducible repeat (first | refine blk_drewN ?_ _ | refine blk_drew ?_ | refine blk_alloc ?_ _)); exact BK133.out) hb); have n3_ := Aside0.mk (below_step (by repeat (first | (with_reducible first | exact HB.out | apply below_alloc | apply pw_below_drewN | apply below_drew1 | refine below_set ?_ GE133.out) | exact HB.out)) hb); clear HO131; clear BK133; clear HB; have HO131 := n0_; have HO139 := n1_; have BK133 := n2_; have HB := n3_; clear n0_ n1_ n2_ n3_; (try clear hb); (try clear hb2); (try clear hk); (try clear hi); (try clear ho0)) | ((with_reducible refine gate_dst (N := 3) rfl ?_); refine box_event ?hg (N := 3) ?hd (cs := #[.int .i64 0, .int .i64 0, .string (⟨#[]⟩ : ByteArray), .slice none 0 0]) (t := 25) ?hr ?_; (case hd => rfl); (case hg => rfl); (case hr => first | (go_simp; done) | (go_simp; rfl)); intro gb141 hg w19 hbox hb; have n0_ := Aside0.mk (Kd.R_below (by (with_reducible repeat (first | apply Kd.R_alloc | apply Kd.R_drewN | apply Kd.R_drew)); exact HO131.out) hb); have n1_ := Aside0.mk (Kd.R_below (by (with_reducible repeat (first | apply Kd.R_alloc | apply Kd.R_drewN | apply Kd.R_drew)); exact HO139.out) hb); have n2_ := Aside0.mk (blk_below (g := gb133) (o := .cells #[.int .i64 t126, .int .i64 t127, .string t128, .slice Ao17 t129.length co17] 25 (0, 0)) (by (with_reducible repeat (first | refine blk_drewN ?_ _ | refine blk_drew ?_ | refine blk_alloc ?_ _)); exact BK133.out) hb); have n3_ := Aside0.mk (below_step (by repeat (first | (with_reducible first | exact HB.out | apply below_alloc | apply pw_below_drewN | apply below_drew1 | refine below_set ?_ GE133.out) | exact HB.out)) hb); have n4_ := Aside0.mk (hbox); have n5_ := Aside0.mk ((by rw [hg]; exact (below_size (by repeat (first | (with_reducible first | exact HB.out | apply below_alloc | apply pw_below_drewN | apply below_drew1 | refine below_set ?_ GE133.out) | exact HB.out))) : w.heap.size ≤ gb141)); have n6_ := Aside0.mk ((by rw [hg]; exact (below_size (by repeat (first | (with_reducible first | exact HB.out | apply below_alloc | apply pw_below_drewN | apply below_drew1 | refine below_set ?_ GE133.out) | exact HB.out))) : w.heap.size ≤ gb141)); have n7_ := Aside0.mk ((by rw [hg]; exact Nat.ne_of_lt (blk_lt (g := gb133) (o := .cells #[.int .i64 t126, .int .i64 t127, .string t128, .slice Ao17 t129.length co17] 25 (0, 0)) (by (with_reducible repeat (first | refine blk_drewN ?_ _ | refine blk_drew ?_ | refine blk_alloc ?_ _)); exact BK133.out)) : gb133 ≠ gb141)); have n8_ := Aside0.mk ((by rw [hg]; exact Nat.ne_of_gt (blk_lt (g := gb133) (o := .cells #[.int .i64 t126, .int .i64 t127, .string t128, .slice Ao17 t129.length co17] 25 (0, 0)) (by (with_reducible repeat (first | refine blk_drewN ?_ _ | refine blk_drew ?_ | refine blk_alloc ?_ _)); exact BK133.out)) : gb141 ≠ gb133)); clear HO131; clear HO139; clear BK133; clear HB; have HO131 := n0_; have HO139 := n1_; have BK133 := n2_; have HB := n3_; have BK141 := n4_; have GW141 := n5_; have GE141 := n6_; have NB133_141 := n7_; have NB141_133 := n8_; clear n0_ n1_ n2_ n3_ n4_ n5_ n6_ n7_ n8_; clear hb hbox hg; have hnb20 := NB141_133.out; have hnc20 := NB133_141.out; have hcz21_0 : w19.cell? ⟨gb141, 0, none⟩ = some (.int .i64 0) := (blk_cell BK141.out 0).trans rfl; have hcz21_1 : w19.cell? ⟨gb141, 1, none⟩ = some (.int .i64 0) := (blk_cell BK141.out 1).trans rfl; have hcz21_2 : w19.cell? ⟨gb141, 2, none⟩ = some (.string (⟨#[]⟩ : ByteArray)) := (blk_cell BK141.out 2).trans rfl; have hcz21_3 : w19.cell? ⟨gb141, 3, none⟩ = some (.slice none 0 0) := (blk_cell BK141.out 3).trans rfl; have hfz21_0 := blk_frozen BK141.out 0; have hfz21_1 := blk_frozen BK141.out 1; have hfz21_2 := blk_frozen BK141.out 2; have hfz21_3 := blk_frozen BK141.out 3; obtain ⟨Ao22, co22, eo22⟩ := Kd.R_slice HO139.out; subst eo22) | ((with_reducible refine gate_callee (f := 11) rfl ?_); refine goesL_ (some 19) rfl rfl Tryz.func11 (by kernel_rfl) rfl #[.agg #[.int .i64 t134, .int .i64 t135, .string t136, .slice Ao22 t137.length co22]] rfl (by (try simp only [List.map_toArray, List.map_cons, List.map_nil]); first | done | rfl | (simp only [List.length_drop, List.length_take]; rfl)) ?_; (with_reducible refine (sfitem_Text.calls t134 t135 t136 _ _ t137 t142 t143 _ (tab_ hT_ ?hTab) ?side1 ?side2 A3.out).mono ?_); (case hTab => exact (by repeat (first | (with_reducible first | exact HB.out | apply below_alloc | apply pw_below_drewN | apply below_drew1 | refine below_set ?_ GE133.out | refine below_set ?_ GE141.out) | exact HB.out))); (case side1 => refine (Kd.R_reads' (e := 43) (base := w.heap.size) (ok := fun k_ => (True ∧ some k_ ≠ (.slice Ao17 t129.length co17 : Value).ownBlock)) (n := t137.length) (c := co22) ?_).2.2; exact (by (with_reducible repeat (first | apply Kd.R_alloc | apply Kd.R_drewN | apply Kd.R_drew)); exact (Kd.R_mono (Kd.R_far (p := ⟨gb141, 3, none⟩) (Kd.R_far (p := ⟨gb141, 2, none⟩) (Kd.R_far (p := ⟨gb141, 1, none⟩) (Kd.R_far (p := ⟨gb141, 0, none⟩) (Kd.R_types HO139.out BK141.out (by decide)) (fun _ hk => hk.2) (.int .i64 t134)) (fun _ hk => hk.2) (.int .i64 t135)) (fun _ hk => hk.2) (.string t136)) (fun _ hk => hk.2) (.slice Ao22 t137.length co22)) (fun _ h_ => h_.1)))); (case side2 => exact (Kd.R_reads' HO139.out).2.1); rintro e w23 ⟨rfl, hb⟩; refine ⟨_, rfl, ?_⟩; have n0_ := Aside0.mk (Kd.R_below (by (with_reducible repeat (first | apply Kd.R_alloc | apply Kd.R_drewN | apply Kd.R_drew)); exact (Kd.R_mono (Kd.R_far (p := ⟨gb141, 3, none⟩) (Kd.R_far (p := ⟨gb141, 2, none⟩) (Kd.R_far (p := ⟨gb141, 1, none⟩) (Kd.R_far (p := ⟨gb141, 0, none⟩) (Kd.R_types HO131.out BK141.out (by decide)) (fun _ hk => hk.2) (.int .i64 t134)) (fun _ hk => hk.2) (.int .i64 t135)) (fun _ hk => hk.2) (.string t136)) (fun _ hk => hk.2) (.slice Ao22 t137.length co22)) (fun _ h_ => h_.1))) hb); have n1_ := Aside0.mk (Kd.R_below (by (with_reducible repeat (first | apply Kd.R_alloc | apply Kd.R_drewN | apply Kd.R_drew)); exact (Kd.R_mono (Kd.R_far (p := ⟨gb141, 3, none⟩) (Kd.R_far (p := ⟨gb141, 2, none⟩) (Kd.R_far (p := ⟨gb141, 1, none⟩) (Kd.R_far (p := ⟨gb141, 0, none⟩) (Kd.R_types HO139.out BK141.out (by decide)) (fun _ hk => hk.2) (.int .i64 t134)) (fun _ hk => hk.2) (.int .i64 t135)) (fun _ hk => hk.2) (.string t136)) (fun _ hk => hk.2) (.slice Ao22 t137.length co22)) (fun _ h_ => h_.1))) hb); have n2_ := Aside0.mk (blk_below (g := gb133) (o := .cells #[.int .i64 t126, .int .i64 t127, .string t128, .slice Ao17 t129.length co17] 25 (0, 0)) (by (with_reducible repeat (first | refine blk_drewN ?_ _ | refine blk_drew ?_ | refine blk_alloc ?_ _)); refine blk_far ?_ NB133_141.out _; (with_reducible repeat (first | refine blk_drewN ?_ _ | refine blk_drew ?_ | refine blk_alloc ?_ _)); refine blk_far ?_ NB133_141.out _; (with_reducible repeat (first | refine blk_drewN ?_ _ | refine blk_drew ?_ | refine blk_alloc ?_ _)); refine blk_far ?_ NB133_141.out _; (with_reducible repeat (first | refine blk_drewN ?_ _ | refine blk_drew ?_ | refine blk_alloc ?_ _)); refine blk_far ?_ NB133_141.out _; (with_reducible repeat (first | refine blk_drewN ?_ _ | refine blk_drew ?_ | refine blk_alloc ?_ _)); exact BK133.out) hb); have n3_ := Aside0.mk (blk_below (g := gb141) (o := .cells #[.int .i64 t134, .int .i64 t135, .string t136, .slice Ao22 t137.length co22] 25 (0, 0)) (by (with_reducible repeat (first | refine blk_drewN ?_ _ | refine blk_drew ?_ | refine blk_alloc ?_ _)); refine blk_put (cs := #[.int .i64 t134, .int .i64 t135, .string t136, .slice none 0 0]) ?_ 3 _ rfl; (with_reducible repeat (first | refine blk_drewN ?_ _ | refine blk_drew ?_ | refine blk_alloc ?_ _)); refine blk_put (cs := #[.int .i64 t134, .int .i64 t135, .string (⟨#[]⟩ : ByteArray), .slice none 0 0]) ?_ 2 _ rfl; (with_reducible repeat (first | refine blk_drewN ?_ _ | refine blk_drew ?_ | refine blk_alloc ?_ _)); refine blk_put (cs := #[.int .i64 t134, .int .i64 0, .string (⟨#[]⟩ : ByteArray), .slice none 0 0]) ?_ 1 _ rfl; (with_reducible repeat (first | refine blk_drewN ?_ _ | refine blk_drew ?_ | refine blk_alloc ?_ _)); refine blk_put (cs := #[.int .i64 0, .int .i64 0, .string (⟨#[]⟩ : ByteArray), .slice none 0 0]) ?_ 0 _ rfl; (with_reducible repeat (first | refine blk_drewN ?_ _ | refine blk_drew ?_ | refine blk_alloc ?_ _)); exact BK141.out) hb); have n4_ := Aside0.mk (below_step (by repeat (first | (with_reducible first | exact HB.out | apply below_alloc | apply pw_below_drewN | apply below_drew1 | refine below_set ?_ GE133.out | refine below_set ?_ GE141.out) | exact HB.out)) hb); clear HO131; clear HO139; clear BK133; clear BK141; clear HB; have HO131 := n0_; have HO139 := n1_; have BK133 := n2_; have BK141 := n3_; have HB := n4_; clear n0_ n1_ n2_ n3_ n4_; (try clear hb); (try clear hb2); (try clear hk); (try clear hi)) | ((with_reducible refine gate_callee (f := 7) rfl ?_); refine goesL_ (some 23) rfl rfl Tryz.func7 (by kernel_rfl) rfl #[.string (⟨#[49, 32, 50]⟩ : ByteArray)] rfl (by (try simp only [List.map_toArray, List.map_cons, List.map_nil]); first | done | rfl | (simp only [List.length_drop, List.length_take]; rfl)) ?_; (with_reducible refine (sfitem_Parse.calls (⟨#[49, 32, 50]⟩ : ByteArray) t144 t145 t146 t147 t150 _ A4.out).mono ?_); rintro e w24 ⟨v148, rfl, ho0, hb⟩; refine ⟨_, rfl, ?_⟩; have n0_ := Aside0.mk (Kd.R_elder' (by (with_reducible repeat (first | apply Kd.R_alloc | apply Kd.R_drewN | apply Kd.R_drew)); exact HO131.out) (Kd.R_base ho0) hb); have n1_ := Aside0.mk (Kd.R_elder' (by (with_reducible repeat (first | apply Kd.R_alloc | apply Kd.R_drewN | apply Kd.R_drew)); exact HO139.out) (Kd.R_base ho0) hb); have n2_ := Aside0.mk (Kd.R_lower (Kd.R_new' (Kd.R_new' ho0 (Kd.R_lt (by (with_reducible repeat (first | apply Kd.R_alloc | apply Kd.R_drewN | apply Kd.R_drew)); exact HO131.out))) (Kd.R_lt (by (with_reducible repeat (first | apply Kd.R_alloc | apply Kd.R_drewN | apply Kd.R_drew)); exact HO139.out))) (below_size (by repeat (first | (with_reducible first | exact HB.out | apply below_alloc | apply pw_below_drewN | apply below_drew1 | refine below_set ?_ GE133.out | refine below_set ?_ GE141.out) | exact HB.out)))); have n3_ := Aside0.mk (blk_below (g := gb133) (o := .cells #[.int .i64 t126, .int .i64 t127, .string t128, .slice Ao17 t129.length co17] 25 (0, 0)) (by (with_reducible repeat (first | refine blk_drewN ?_ _ | refine blk_drew ?_ | refine blk_alloc ?_ _)); exact BK133.out) hb); have n4_ := Aside0.mk (blk_below (g := gb141) (o := .cells #[.int .i64 t134, .int .i64 t135, .string t136, .slice Ao22 t137.length co22] 25 (0, 0)) (by (with_reducible repeat (first | refine blk_drewN ?_ _ | refine blk_drew ?_ | refine blk_alloc ?_ _)); exact BK141.out) hb); have n5_ := Aside0.mk (below_step (by repeat (first | (with_reducible first | exact HB.out | apply below_alloc | apply pw_below_drewN | apply below_drew1 | refine below_set ?_ GE133.out | refine below_set ?_ GE141.out) | exact HB.out)) hb); clear HO131; clear HO139; clear BK133; clear BK141; clear HB; have HO131 := n0_; have HO139 := n1_; have HO149 := n2_; have BK133 := n3_; have BK141 := n4_; have HB := n5_; clear n0_ n1_ n2_ n3_ n4_ n5_; (try clear hb); (try clear hb2); (try clear hk); (try clear hi); (try clear ho0)) | ((with_reducible refine gate_dst (N := 7) rfl ?_); refine box_event ?hg (N := 7) ?hd (cs := #[.int .i64 0, .int .i64 0, .string (⟨#[]⟩ : ByteArray), .slice none 0 0]) (t := 25) ?hr ?_; (case hd => rfl); (case hg => rfl); (case hr => first | (go_simp; done) | (go_simp; rfl)); intro gb151 hg w25 hbox hb; have n0_ := Aside0.mk (Kd.R_below (by (with_reducible repeat (first | apply Kd.R_alloc | apply Kd.R_drewN | apply Kd.R_drew)); exact HO131.out) hb); have n1_ := Aside0.mk (Kd.R_below (by (with_reducible repeat (first | apply Kd.R_alloc | apply Kd.R_drewN | apply Kd.R_drew)); exact HO139.out) hb); have n2_ := Aside0.mk (Kd.R_below (by (with_reducible repeat (first | apply Kd.R_alloc | apply Kd.R_drewN | apply Kd.R_drew)); exact HO149.out) hb); have n3_ := Aside0.mk (blk_below (g := gb133) (o := .cells #[.int .i64 t126, .int .i64 t127, .string t128, .slice Ao17 t129.length co17] 25 (0, 0)) (by (with_reducible repeat (first | refine blk_drewN ?_ _ | refine blk_drew ?_ | refine blk_alloc ?_ _)); exact BK133.out) hb); have n4_ := Aside0.mk (blk_below (g := gb141) (o := .cells #[.int .i64 t134, .int .i64 t135, .string t136, .slice Ao22 t137.length co22] 25 (0, 0)) (by (with_reducible repeat (first | refine blk_drewN ?_ _ | refine blk_drew ?_ | refine blk_alloc ?_ _)); exact BK141.out) hb); have n5_ := Aside0.mk (below_step (by repeat (first | (with_reducible first | exact HB.out | apply below_alloc | apply pw_below_drewN | apply below_drew1 | refine below_set ?_ GE133.out | refine below_set ?_ GE141.out) | exact HB.out)) hb); have n6_ := Aside0.mk (hbox); have n7_ := Aside0.mk ((by rw [hg]; exact (below_size (by repeat (first | (with_reducible first | exact HB.out | apply below_alloc | apply pw_below_drewN | apply below_drew1 | refine below_set ?_ GE133.out | refine below_set ?_ GE141.out) | exact HB.out))) : w.heap.size ≤ gb151)); have n8_ := Aside0.mk ((by rw [hg]; exact (below_size (by repeat (first | (with_reducible first | exact HB.out | apply below_alloc | apply pw_below_drewN | apply below_drew1 | refine below_set ?_ GE133.out | refine below_set ?_ GE141.out) | exact HB.out))) : w.heap.size ≤ gb151)); have n9_ := Aside0.mk ((by rw [hg]; exact Nat.ne_of_lt (blk_lt (g := gb133) (o := .cells #[.int .i64 t126, .int .i64 t127, .string t128, .slice Ao17 t129.length co17] 25 (0, 0)) (by (with_reducible repeat (first | refine blk_drewN ?_ _ | refine blk_drew ?_ | refine blk_alloc ?_ _)); exact BK133.out)) : gb133 ≠ gb151)); have n10_ := Aside0.mk ((by rw [hg]; exact Nat.ne_of_gt (blk_lt (g := gb133) (o := .cells #[.int .i64 t126, .int .i64 t127, .string t128, .slice Ao17 t129.length co17] 25 (0, 0)) (by (with_reducible repeat (first | refine blk_drewN ?_ _ | refine blk_drew ?_ | refine blk_alloc ?_ _)); exact BK133.out)) : gb151 ≠ gb133)); have n11_ := Aside0.mk ((by rw [hg]; exact Nat.ne_of_lt (blk_lt (g := gb141) (o := .cells #[.int .i64 t134, .int .i64 t135, .string t136, .slice Ao22 t137.length co22] 25 (0, 0)) (by (with_reducible repeat (first | refine blk_drewN ?_ _ | refine blk_drew ?_ | refine blk_alloc ?_ _)); exact BK141.out)) : gb141 ≠ gb151)); have n12_ := Aside0.mk ((by rw [hg]; exact Nat.ne_of_gt (blk_lt (g := gb141) (o := .cells #[.int .i64 t134, .int .i64 t135, .string t136, .slice Ao22 t137.length co22] 25 (0, 0)) (by (with_reducible repeat (first | refine blk_drewN ?_ _ | refine blk_drew ?_ | refine blk_alloc ?_ _)); exact BK141.out)) : gb151 ≠ gb141)); clear HO131; clear HO139; clear HO149; clear BK133; clear BK141; clear HB; have HO131 := n0_; have HO139 := n1_; have HO149 := n2_; have BK133 := n3_; have BK141 := n4_; have HB := n5_; have BK151 := n6_; have GW151 := n7_; have GE151 := n8_; have NB133_151 := n9_; have NB151_133 := n10_; have NB141_151 := n11_; have NB151_141 := n12_; clear n0_ n1_ n2_ n3_ n4_ n5_ n6_ n7_ n8_ n9_ n10_ n11_ n12_; clear hb hbox hg; have hnb26 := NB151_133.out; have hnc26 := NB133_151.out; have hnb27 := NB151_141.out; have hnc27 := NB141_151.out; have hcz28_0 : w25.cell? ⟨gb151, 0, none⟩ = some (.int .i64 0) := (blk_cell BK151.out 0).trans rfl; have hcz28_1 : w25.cell? ⟨gb151, 1, none⟩ = some (.int .i64 0) := (blk_cell BK151.out 1).trans rfl; have hcz28_2 : w25.cell? ⟨gb151, 2, none⟩ = some (.string (⟨#[]⟩ : ByteArray)) := (blk_cell BK151.out 2).trans rfl; have hcz28_3 : w25.cell? ⟨gb151, 3, none⟩ = some (.slice none 0 0) := (blk_cell BK151.out 3).trans rfl; have hfz28_0 := blk_frozen BK151.out 0; have hfz28_1 := blk_frozen BK151.out 1; have hfz28_2 := blk_frozen BK151.out 2; have hfz28_3 := blk_frozen BK151.out 3; obtain ⟨Ao29, co29, eo29⟩ := Kd.R_slice HO149.out; subst eo29; have hcz30_0 : w25.cell? ⟨gb133, 0, none⟩ = some (.int .i64 t126) := (blk_cell BK133.out 0).trans rfl; have hcz30_1 : w25.cell? ⟨gb133, 1, none⟩ = some (.int .i64 t127) := (blk_cell BK133.out 1).trans rfl; have hcz30_2 : w25.cell? ⟨gb133, 2, none⟩ = some (.string t128) := (blk_cell BK133.out 2).trans rfl; have hcz30_3 : w25.cell? ⟨gb133, 3, none⟩ = some (.slice Ao17 t129.length co17) := (blk_cell BK133.out 3).trans rfl; have hfz30_0 := blk_frozen BK133.out 0; have hfz30_1 := blk_frozen BK133.out 1; have hfz30_2 := blk_frozen BK133.out 2; have hfz30_3 := blk_frozen BK133.out 3; have p152 : 0 ≤ (0 : Int) := (by omega); have q152 : 0 < (t129.length : Int) := of_decide_eq_true (by first | (with_reducible assumption) | assumption); obtain ⟨ad152, e152, hx152_0, hx152_1, hx152_2, hx152_3⟩ := at_T43 (Kd.R_reads' HO131.out).2.2 0 p152 q152; cases e152; have qi152 : (0 < t129.length) = True := eq_true (by omega); (try rw [show ((0 : Int)).toNat = 0 from rfl] at hx152_0); (try rw [show 0 * 4 = 0 from rfl] at hx152_0); (try rw [Addr.add_zero'] at hx152_0); (try rw [show ((0 : Int)).toNat = 0 from rfl] at hx152_1); (try rw [show 0 * 4 = 0 from rfl] at hx152_1); (try rw [Addr.add_zero'] at hx152_1); (try rw [show ((0 : Int)).toNat = 0 from rfl] at hx152_2); (try rw [show 0 * 4 = 0 from rfl] at hx152_2); (try rw [Addr.add_zero'] at hx152_2); (try rw [show ((0 : Int)).toNat = 0 from rfl] at hx152_3); (try rw [show 0 * 4 = 0 from rfl] at hx152_3); (try rw [Addr.add_zero'] at hx152_3); have hn152_0 : ad152.block ≠ gb151 := Kd.own_blk (Kd.R_ne HO131.out BK151.out (by decide)); have hn152_1 : ad152.block ≠ gb151 := Kd.own_blk (Kd.R_ne HO131.out BK151.out (by decide)); have hn152_2 : ad152.block ≠ gb151 := Kd.own_blk (Kd.R_ne HO131.out BK151.out (by decide)); have hn152_3 : ad152.block ≠ gb151 := Kd.own_blk (Kd.R_ne HO131.out BK151.out (by decide)); replace hx152_0 := (cell_far (p := ⟨gb151, 0, none⟩) (by first | (rw [add_block]; exact hn152_0) | (show (Addr.add _ _).block ≠ _; rw [add_block]; exact hn152_0) | exact hn152_0) (.int .i64 t144)).trans hx152_0; replace hx152_1 := (cell_far (p := ⟨gb151, 0, none⟩) (by first | (rw [add_block]; exact hn152_0) | (show (Addr.add _ _).block ≠ _; rw [add_block]; exact hn152_0) | exact hn152_0) (.int .i64 t144)).trans hx152_1; replace hx152_2 := (cell_far (p := ⟨gb151, 0, none⟩) (by first | (rw [add_block]; exact hn152_0) | (show (Addr.add _ _).block ≠ _; rw [add_block]; exact hn152_0) | exact hn152_0) (.int .i64 t144)).trans hx152_2; replace hx152_3 := (cell_far (p := ⟨gb151, 0, none⟩) (by first | (rw [add_block]; exact hn152_0) | (show (Addr.add _ _).block ≠ _; rw [add_block]; exact hn152_0) | exact hn152_0) (.int .i64 t144)).trans hx152_3; replace hx152_0 := (cell_far (p := ⟨gb151, 1, none⟩) (by first | (rw [add_block]; exact hn152_1) | (show (Addr.add _ _).block ≠ _; rw [add_block]; exact hn152_1) | exact hn152_1) (.int .i64 t145)).trans hx152_0; replace hx152_1 := (cell_far (p := ⟨gb151, 1, none⟩) (by first | (rw [add_block]; exact hn152_1) | (show (Addr.add _ _).block ≠ _; rw [add_block]; exact hn152_1) | exact hn152_1) (.int .i64 t145)).trans hx152_1; replace hx152_2 := (cell_far (p := ⟨gb151, 1, none⟩) (by first | (rw [add_block]; exact hn152_1) | (show (Addr.add _ _).block ≠ _; rw [add_block]; exact hn152_1) | exact hn152_1) (.int .i64 t145)).trans hx152_2; replace hx152_3 := (cell_far (p := ⟨gb151, 1, none⟩) (by first | (rw [add_block]; exact hn152_1) | (show (Addr.add _ _).block ≠ _; rw [add_block]; exact hn152_1) | exact hn152_1) (.int .i64 t145)).trans hx152_3; replace hx152_0 := (cell_far (p := ⟨gb151, 2, none⟩) (by first | (rw [add_block]; exact hn152_2) | (show (Addr.add _ _).block ≠ _; rw [add_block]; exact hn152_2) | exact hn152_2) (.string t146)).trans hx152_0; replace hx152_1 := (cell_far (p := ⟨gb151, 2, none⟩) (by first | (rw [add_block]; exact hn152_2) | (show (Addr.add _ _).block ≠ _; rw [add_block]; exact hn152_2) | exact hn152_2) (.string t146)).trans hx152_1; replace hx152_2 := (cell_far (p := ⟨gb151, 2, none⟩) (by first | (rw [add_block]; exact hn152_2) | (show (Addr.add _ _).block ≠ _; rw [add_block]; exact hn152_2) | exact hn152_2) (.string t146)).trans hx152_2; replace hx152_3 := (cell_far (p := ⟨gb151, 2, none⟩) (by first | (rw [add_block]; exact hn152_2) | (show (Addr.add _ _).block ≠ _; rw [add_block]; exact hn152_2) | exact hn152_2) (.string t146)).trans hx152_3; replace hx152_0 := (cell_far (p := ⟨gb151, 3, none⟩) (by first | (rw [add_block]; exact hn152_3) | (show (Addr.add _ _).block ≠ _; rw [add_block]; exact hn152_3) | exact hn152_3) (.slice Ao29 t147.length co29)).trans hx152_0; replace hx152_1 := (cell_far (p := ⟨gb151, 3, none⟩) (by first | (rw [add_block]; exact hn152_3) | (show (Addr.add _ _).block ≠ _; rw [add_block]; exact hn152_3) | exact hn152_3) (.slice Ao29 t147.length co29)).trans hx152_1; replace hx152_2 := (cell_far (p := ⟨gb151, 3, none⟩) (by first | (rw [add_block]; exact hn152_3) | (show (Addr.add _ _).block ≠ _; rw [add_block]; exact hn152_3) | exact hn152_3) (.slice Ao29 t147.length co29)).trans hx152_2; replace hx152_3 := (cell_far (p := ⟨gb151, 3, none⟩) (by first | (rw [add_block]; exact hn152_3) | (show (Addr.add _ _).block ≠ _; rw [add_block]; exact hn152_3) | exact hn152_3) (.slice Ao29 t147.length co29)).trans hx152_3; clear hn152_0; clear hn152_1; clear hn152_2; clear hn152_3; replace p152 := eq_true p152; replace q152 := eq_true q152))
                    go_ret
                    exact ⟨by first | rfl | (simp [errW_none, errW_some] <;> rfl) | (simp [*, errW_none, errW_some] <;> rfl) | (simp [q_ne_nil]; done), by repeat (first | (with_reducible first | exact HB.out | apply below_alloc | apply pw_below_drewN | apply below_drew1 | refine below_set ?_ GE133.out | refine below_set ?_ GE141.out | refine below_set ?_ GE151.out) | exact HB.out)⟩
                  · exact absurd H (by rw [if_neg c13]; simp)
                · exact absurd H (by rw [if_neg c12]; simp)
              · exact absurd H (by rw [if_neg c11]; simp)
            · exact absurd H (by rw [if_neg c10]; simp)
          · exact absurd H (by rw [if_neg c9]; simp)
        · exact absurd H (by rw [if_neg c8]; simp)
      · exact absurd H (by rw [if_neg c7]; simp)
    · exact absurd H (by rw [if_neg c6]; simp)
  · exact absurd H (by rw [if_neg c5]; simp)
end Go.Proofs.YtbbaokjkmcfceaaGreatDoor.Q
namespace Go.Proofs.YtbbaokjkmcfceaaGreatDoor.Q
open Go.RowKit Go.Proofs.YtbbaokjkmcfceaaGreatDoorW.PrintWords Go.Proofs.YtbbaokjkmcfceaaGreatDoorW.PrintLast Go.Proofs.YtbbaokjkmcfceaaGreatDoorW.PrintMore
set_option linter.unusedVariables false
set_option linter.unusedSimpArgs false
attribute [local go_sem high] eqA43
def glacisref05_small.f (a0 : Int) (a1 : Bool) : Option (Bool) := if a0 ≥ 97 then (if a0 ≤ 122 then (some true) else (if a0 = 42 then (some true) else (if a1 = true then (some false) else (if a0 ≥ 48 then (if a0 ≤ 57 then (some true) else (if a0 = 95 then (some true) else (if a0 = 45 then (some true) else (some (a0 == 46))))) else (if a0 = 95 then (some true) else (if a0 = 45 then (some true) else (some (a0 == 46)))))))) else (if a0 = 42 then (some true) else (if a1 = true then (some false) else (if a0 ≥ 48 then (if a0 ≤ 57 then (some true) else (if a0 = 95 then (some true) else (if a0 = 45 then (some true) else (some (a0 == 46))))) else (if a0 = 95 then (some true) else (if a0 = 45 then (some true) else (some (a0 == 46)))))))
set_option maxHeartbeats 8000000 in
set_option maxRecDepth 100000 in
theorem glacisref05_small.calls (a0 : Int) (a1 : Bool) (r : Bool) (w : World) (h : glacisref05_small.f a0 a1 = some r) :
    Calls Tryz.prog 36 #[.int .u8 a0, .bool a1] w fun e w' => e = .returned (.bool r) ∧ Drawn0 w w' := by
  have H : (if a0 ≥ 97 then (if a0 ≤ 122 then (some true) else (if a0 = 42 then (some true) else (if a1 = true then (some false) else (if a0 ≥ 48 then (if a0 ≤ 57 then (some true) else (if a0 = 95 then (some true) else (if a0 = 45 then (some true) else (some (a0 == 46))))) else (if a0 = 95 then (some true) else (if a0 = 45 then (some true) else (some (a0 == 46)))))))) else (if a0 = 42 then (some true) else (if a1 = true then (some false) else (if a0 ≥ 48 then (if a0 ≤ 57 then (some true) else (if a0 = 95 then (some true) else (if a0 = 45 then (some true) else (some (a0 == 46))))) else (if a0 = 95 then (some true) else (if a0 = 45 then (some true) else (some (a0 == 46)))))))) = some r := h
  clear h
  by_cases c3 : a0 ≥ 97
  · rw [if_pos c3] at H
    have c3b0 : decide (97 ≤ a0) = true := decide_eq_true c3
    clear c3
    by_cases c4 : a0 ≤ 122
    · rw [if_pos c4] at H
      have c4b0 : decide (a0 ≤ 122) = true := decide_eq_true c4
      clear c4
      obtain rfl := Option.some.inj H
      go_enter Tryz.func36, Tryz.ntmps36
      go_wp2
      go_ret
      exact ⟨by first | rfl | (simp; done) | (simp [*]; done) | (simp [q_ne_nil]; done), by repeat (first | exact Drawn0.refl _ | apply Drawn0.step)⟩
    · rw [if_neg c4] at H
      have c4b0 : decide (a0 ≤ 122) = false := decide_eq_false c4
      clear c4
      by_cases c5 : a0 = 42
      · rw [if_pos c5] at H
        have c5b0 : (a0 == 42) = true := beq_iff_eq.mpr c5
        have c5b1 : (a0 != 42) = false := bne_eq_false_iff_eq.mpr c5
        clear c5
        obtain rfl := Option.some.inj H
        go_enter Tryz.func36, Tryz.ntmps36
        go_wp2
        go_ret
        exact ⟨by first | rfl | (simp; done) | (simp [*]; done) | (simp [q_ne_nil]; done), by repeat (first | exact Drawn0.refl _ | apply Drawn0.step)⟩
      · rw [if_neg c5] at H
        have c5b0 : (a0 == 42) = false := beq_eq_false_iff_ne.mpr c5
        have c5b1 : (a0 != 42) = true := bne_iff_ne.mpr c5
        by_cases c6 : a1 = true
        · subst c6
          have H1 : (some false) = some r := by rw [if_pos rfl] at H; exact H
          clear H
          have H := H1
          clear H1
          obtain rfl := Option.some.inj H
          go_enter Tryz.func36, Tryz.ntmps36
          go_wp2
          go_ret
          exact ⟨by first | rfl | (simp; done) | (simp [*]; done) | (simp [q_ne_nil]; done), by repeat (first | exact Drawn0.refl _ | apply Drawn0.step)⟩
        · replace c6 := Bool.eq_false_iff.mpr c6
          subst c6
          have H1 : (if a0 ≥ 48 then (if a0 ≤ 57 then (some true) else (if a0 = 95 then (some true) else (if a0 = 45 then (some true) else (some (a0 == 46))))) else (if a0 = 95 then (some true) else (if a0 = 45 then (some true) else (some (a0 == 46))))) = some r := by rw [if_neg (show ¬ (false = true) by decide)] at H; exact H
          clear H
          have H := H1
          clear H1
          by_cases c7 : a0 ≥ 48
          · rw [if_pos c7] at H
            have c7b0 : decide (48 ≤ a0) = true := decide_eq_true c7
            clear c7
            by_cases c8 : a0 ≤ 57
            · rw [if_pos c8] at H
              have c8b0 : decide (a0 ≤ 57) = true := decide_eq_true c8
              clear c8
              obtain rfl := Option.some.inj H
              go_enter Tryz.func36, Tryz.ntmps36
              go_wp2
              go_ret
              exact ⟨by first | rfl | (simp; done) | (simp [*]; done) | (simp [q_ne_nil]; done), by repeat (first | exact Drawn0.refl _ | apply Drawn0.step)⟩
            · rw [if_neg c8] at H
              have c8b0 : decide (a0 ≤ 57) = false := decide_eq_false c8
              clear c8
              by_cases c9 : a0 = 95
              · rw [if_pos c9] at H
                have c9b0 : (a0 == 95) = true := beq_iff_eq.mpr c9
                have c9b1 : (a0 != 95) = false := bne_eq_false_iff_eq.mpr c9
                clear c9
                obtain rfl := Option.some.inj H
                go_enter Tryz.func36, Tryz.ntmps36
                go_wp2
                go_ret
                exact ⟨by first | rfl | (simp; done) | (simp [*]; done) | (simp [q_ne_nil]; done), by repeat (first | exact Drawn0.refl _ | apply Drawn0.step)⟩
              · rw [if_neg c9] at H
                have c9b0 : (a0 == 95) = false := beq_eq_false_iff_ne.mpr c9
                have c9b1 : (a0 != 95) = true := bne_iff_ne.mpr c9
                by_cases c10 : a0 = 45
                · rw [if_pos c10] at H
                  have c10b0 : (a0 == 45) = true := beq_iff_eq.mpr c10
                  have c10b1 : (a0 != 45) = false := bne_eq_false_iff_eq.mpr c10
                  clear c10
                  obtain rfl := Option.some.inj H
                  go_enter Tryz.func36, Tryz.ntmps36
                  go_wp2
                  go_ret
                  exact ⟨by first | rfl | (simp; done) | (simp [*]; done) | (simp [q_ne_nil]; done), by repeat (first | exact Drawn0.refl _ | apply Drawn0.step)⟩
                · rw [if_neg c10] at H
                  have c10b0 : (a0 == 45) = false := beq_eq_false_iff_ne.mpr c10
                  have c10b1 : (a0 != 45) = true := bne_iff_ne.mpr c10
                  obtain rfl := Option.some.inj H
                  go_enter Tryz.func36, Tryz.ntmps36
                  go_wp2
                  go_ret
                  exact ⟨by first | rfl | (simp; done) | (simp [*]; done) | (simp [q_ne_nil]; done), by repeat (first | exact Drawn0.refl _ | apply Drawn0.step)⟩
          · rw [if_neg c7] at H
            have c7b0 : decide (48 ≤ a0) = false := decide_eq_false c7
            clear c7
            by_cases c11 : a0 = 95
            · rw [if_pos c11] at H
              have c11b0 : (a0 == 95) = true := beq_iff_eq.mpr c11
              have c11b1 : (a0 != 95) = false := bne_eq_false_iff_eq.mpr c11
              clear c11
              obtain rfl := Option.some.inj H
              go_enter Tryz.func36, Tryz.ntmps36
              go_wp2
              go_ret
              exact ⟨by first | rfl | (simp; done) | (simp [*]; done) | (simp [q_ne_nil]; done), by repeat (first | exact Drawn0.refl _ | apply Drawn0.step)⟩
            · rw [if_neg c11] at H
              have c11b0 : (a0 == 95) = false := beq_eq_false_iff_ne.mpr c11
              have c11b1 : (a0 != 95) = true := bne_iff_ne.mpr c11
              by_cases c12 : a0 = 45
              · rw [if_pos c12] at H
                have c12b0 : (a0 == 45) = true := beq_iff_eq.mpr c12
                have c12b1 : (a0 != 45) = false := bne_eq_false_iff_eq.mpr c12
                clear c12
                obtain rfl := Option.some.inj H
                go_enter Tryz.func36, Tryz.ntmps36
                go_wp2
                go_ret
                exact ⟨by first | rfl | (simp; done) | (simp [*]; done) | (simp [q_ne_nil]; done), by repeat (first | exact Drawn0.refl _ | apply Drawn0.step)⟩
              · rw [if_neg c12] at H
                have c12b0 : (a0 == 45) = false := beq_eq_false_iff_ne.mpr c12
                have c12b1 : (a0 != 45) = true := bne_iff_ne.mpr c12
                obtain rfl := Option.some.inj H
                go_enter Tryz.func36, Tryz.ntmps36
                go_wp2
                go_ret
                exact ⟨by first | rfl | (simp; done) | (simp [*]; done) | (simp [q_ne_nil]; done), by repeat (first | exact Drawn0.refl _ | apply Drawn0.step)⟩
  · rw [if_neg c3] at H
    have c3b0 : decide (97 ≤ a0) = false := decide_eq_false c3
    clear c3
    by_cases c13 : a0 = 42
    · rw [if_pos c13] at H
      have c13b0 : (a0 == 42) = true := beq_iff_eq.mpr c13
      have c13b1 : (a0 != 42) = false := bne_eq_false_iff_eq.mpr c13
      clear c13
      obtain rfl := Option.some.inj H
      go_enter Tryz.func36, Tryz.ntmps36
      go_wp2
      go_ret
      exact ⟨by first | rfl | (simp; done) | (simp [*]; done) | (simp [q_ne_nil]; done), by repeat (first | exact Drawn0.refl _ | apply Drawn0.step)⟩
    · rw [if_neg c13] at H
      have c13b0 : (a0 == 42) = false := beq_eq_false_iff_ne.mpr c13
      have c13b1 : (a0 != 42) = true := bne_iff_ne.mpr c13
      by_cases c14 : a1 = true
      · subst c14
        have H1 : (some false) = some r := by rw [if_pos rfl] at H; exact H
        clear H
        have H := H1
        clear H1
        obtain rfl := Option.some.inj H
        go_enter Tryz.func36, Tryz.ntmps36
        go_wp2
        go_ret
        exact ⟨by first | rfl | (simp; done) | (simp [*]; done) | (simp [q_ne_nil]; done), by repeat (first | exact Drawn0.refl _ | apply Drawn0.step)⟩
      · replace c14 := Bool.eq_false_iff.mpr c14
        subst c14
        have H1 : (if a0 ≥ 48 then (if a0 ≤ 57 then (some true) else (if a0 = 95 then (some true) else (if a0 = 45 then (some true) else (some (a0 == 46))))) else (if a0 = 95 then (some true) else (if a0 = 45 then (some true) else (some (a0 == 46))))) = some r := by rw [if_neg (show ¬ (false = true) by decide)] at H; exact H
        clear H
        have H := H1
        clear H1
        by_cases c15 : a0 ≥ 48
        · rw [if_pos c15] at H
          have c15b0 : decide (48 ≤ a0) = true := decide_eq_true c15
          clear c15
          by_cases c16 : a0 ≤ 57
          · rw [if_pos c16] at H
            have c16b0 : decide (a0 ≤ 57) = true := decide_eq_true c16
            clear c16
            obtain rfl := Option.some.inj H
            go_enter Tryz.func36, Tryz.ntmps36
            go_wp2
            go_ret
            exact ⟨by first | rfl | (simp; done) | (simp [*]; done) | (simp [q_ne_nil]; done), by repeat (first | exact Drawn0.refl _ | apply Drawn0.step)⟩
          · rw [if_neg c16] at H
            have c16b0 : decide (a0 ≤ 57) = false := decide_eq_false c16
            clear c16
            by_cases c17 : a0 = 95
            · rw [if_pos c17] at H
              have c17b0 : (a0 == 95) = true := beq_iff_eq.mpr c17
              have c17b1 : (a0 != 95) = false := bne_eq_false_iff_eq.mpr c17
              clear c17
              obtain rfl := Option.some.inj H
              go_enter Tryz.func36, Tryz.ntmps36
              go_wp2
              go_ret
              exact ⟨by first | rfl | (simp; done) | (simp [*]; done) | (simp [q_ne_nil]; done), by repeat (first | exact Drawn0.refl _ | apply Drawn0.step)⟩
            · rw [if_neg c17] at H
              have c17b0 : (a0 == 95) = false := beq_eq_false_iff_ne.mpr c17
              have c17b1 : (a0 != 95) = true := bne_iff_ne.mpr c17
              by_cases c18 : a0 = 45
              · rw [if_pos c18] at H
                have c18b0 : (a0 == 45) = true := beq_iff_eq.mpr c18
                have c18b1 : (a0 != 45) = false := bne_eq_false_iff_eq.mpr c18
                clear c18
                obtain rfl := Option.some.inj H
                go_enter Tryz.func36, Tryz.ntmps36
                go_wp2
                go_ret
                exact ⟨by first | rfl | (simp; done) | (simp [*]; done) | (simp [q_ne_nil]; done), by repeat (first | exact Drawn0.refl _ | apply Drawn0.step)⟩
              · rw [if_neg c18] at H
                have c18b0 : (a0 == 45) = false := beq_eq_false_iff_ne.mpr c18
                have c18b1 : (a0 != 45) = true := bne_iff_ne.mpr c18
                obtain rfl := Option.some.inj H
                go_enter Tryz.func36, Tryz.ntmps36
                go_wp2
                go_ret
                exact ⟨by first | rfl | (simp; done) | (simp [*]; done) | (simp [q_ne_nil]; done), by repeat (first | exact Drawn0.refl _ | apply Drawn0.step)⟩
        · rw [if_neg c15] at H
          have c15b0 : decide (48 ≤ a0) = false := decide_eq_false c15
          clear c15
          by_cases c19 : a0 = 95
          · rw [if_pos c19] at H
            have c19b0 : (a0 == 95) = true := beq_iff_eq.mpr c19
            have c19b1 : (a0 != 95) = false := bne_eq_false_iff_eq.mpr c19
            clear c19
            obtain rfl := Option.some.inj H
            go_enter Tryz.func36, Tryz.ntmps36
            go_wp2
            go_ret
            exact ⟨by first | rfl | (simp; done) | (simp [*]; done) | (simp [q_ne_nil]; done), by repeat (first | exact Drawn0.refl _ | apply Drawn0.step)⟩
          · rw [if_neg c19] at H
            have c19b0 : (a0 == 95) = false := beq_eq_false_iff_ne.mpr c19
            have c19b1 : (a0 != 95) = true := bne_iff_ne.mpr c19
            by_cases c20 : a0 = 45
            · rw [if_pos c20] at H
              have c20b0 : (a0 == 45) = true := beq_iff_eq.mpr c20
              have c20b1 : (a0 != 45) = false := bne_eq_false_iff_eq.mpr c20
              clear c20
              obtain rfl := Option.some.inj H
              go_enter Tryz.func36, Tryz.ntmps36
              go_wp2
              go_ret
              exact ⟨by first | rfl | (simp; done) | (simp [*]; done) | (simp [q_ne_nil]; done), by repeat (first | exact Drawn0.refl _ | apply Drawn0.step)⟩
            · rw [if_neg c20] at H
              have c20b0 : (a0 == 45) = false := beq_eq_false_iff_ne.mpr c20
              have c20b1 : (a0 != 45) = true := bne_iff_ne.mpr c20
              obtain rfl := Option.some.inj H
              go_enter Tryz.func36, Tryz.ntmps36
              go_wp2
              go_ret
              exact ⟨by first | rfl | (simp; done) | (simp [*]; done) | (simp [q_ne_nil]; done), by repeat (first | exact Drawn0.refl _ | apply Drawn0.step)⟩
def glacisref05_Key.l0 : Nat → ByteArray → Int → Option (ByteArray × ByteArray × Int)
  | 0, _, _ => none
  | k + 1, x0, x5 => if x5 < (x0.size : Int) then (if 0 ≤ x5 then ((glacisref05_small.f (bt x0 x5) (x5 == 0)).bind fun t153 => (if t153 = true then (glacisref05_Key.l0 k x0 (wrap64 (x5 + 1))) else (if x5 = 0 then (some ((⟨#[]⟩ : ByteArray), (⟨#[]⟩ : ByteArray), 50)) else (if x5 ≤ (x0.size : Int) then (some (x0.extract 0 (x5 : Int).toNat, x0.extract (x5 : Int).toNat x0.size, 0)) else (none))))) else (none)) else (if x5 = 0 then (some ((⟨#[]⟩ : ByteArray), (⟨#[]⟩ : ByteArray), 50)) else (if 0 ≤ x5 then (if x5 ≤ (x0.size : Int) then (some (x0.extract 0 (x5 : Int).toNat, x0.extract (x5 : Int).toNat x0.size, 0)) else (none)) else (none)))
def glacisref05_Key.f (k : Nat) (a0 : ByteArray) : Option (ByteArray × ByteArray × Int) := glacisref05_Key.l0 k a0 0
set_option maxHeartbeats 8000000 in
set_option maxRecDepth 100000 in
theorem glacisref05_Key.calls (k : Nat) (a0 : ByteArray) (r1 : ByteArray) (r2 : ByteArray) (r3 : Int) (w : World) (h : glacisref05_Key.f k a0 = some (r1, r2, r3)) :
    Calls Tryz.prog 21 #[.string a0] w fun e w' => e = .returned (.tuple #[.string r1, .string r2, .int .i64 r3]) ∧ Drawn0 w w' := by
  have H : (glacisref05_Key.l0 k a0 0) = some (r1, r2, r3) := h
  clear h
  have H' := Aside0.mk H
  clear H
  go_enter Tryz.func21, Tryz.ntmps21
  go_wp2
  repeat (go_quiet (fail); try go_wp2)
  go_loopg [5] k (fun kq v5 w' => ∃ (x5_1 : Int), v5 = .int .i64 x5_1 ∧ Aside0 (glacisref05_Key.l0 kq a0 x5_1 = some (r1, r2, r3)) ∧ Aside0 (kq ≤ k) ∧ Drawn0 w w')
  case atStart => exact ⟨(0), (by first | rfl | (simp; done) | (simp [*]; done) | (simp [q_ne_nil]; done)), H', ⟨Nat.le_refl _⟩, by repeat (first | exact Drawn0.refl _ | apply Drawn0.step)⟩
  case round =>
    clear H'
    obtain ⟨x5_1, rfl, HA, HK1, ⟨m1, rfl⟩⟩ := hrel
    cases gk with
    | zero => exact absurd HA.out (by simp [glacisref05_Key.l0])
    | succ k1 =>
      have H := HA.out
      clear HA
      simp only [glacisref05_Key.l0] at H
      by_cases c2 : x5_1 < (a0.size : Int)
      · rw [if_pos c2] at H
        have c2b0 : decide (x5_1 < (a0.size : Int)) = true := decide_eq_true c2
        clear c2
        by_cases c3 : 0 ≤ x5_1
        · rw [if_pos c3] at H
          have c3b0 : decide (0 ≤ x5_1) = true := decide_eq_true c3
          clear c3
          replace H := Option.bind_eq_some_iff.mp H
          obtain ⟨t153, A50, H⟩ := H
          replace H : (if t153 = true then (glacisref05_Key.l0 k1 a0 (wrap64 (x5_1 + 1))) else (if x5_1 = 0 then (some ((⟨#[]⟩ : ByteArray), (⟨#[]⟩ : ByteArray), 50)) else (if x5_1 ≤ (a0.size : Int) then (some (a0.extract 0 (x5_1 : Int).toNat, a0.extract (x5_1 : Int).toNat a0.size, 0)) else (none)))) = some (r1, r2, r3) := H
          have A5 := Aside0.mk A50
          clear A50
          by_cases c6 : t153 = true
          · subst c6
            have H1 : (glacisref05_Key.l0 k1 a0 (wrap64 (x5_1 + 1))) = some (r1, r2, r3) := by rw [if_pos rfl] at H; exact H
            clear H
            have H := H1
            clear H1
            have H' := Aside0.mk H
            clear H
            have p4 : 0 ≤ (x5_1 : Int) := of_decide_eq_true (by first | (with_reducible assumption) | assumption)
            have q4 : x5_1 < (a0.size : Int) := of_decide_eq_true (by first | (with_reducible assumption) | assumption)
            have hx4 := bt_at a0 x5_1
            replace p4 := eq_true p4
            replace q4 := eq_true q4
            go_wp2_with (first | (go_at_call 36; (with_reducible refine (glacisref05_small.calls (bt a0 x5_1) (x5_1 == 0) true _ A5.out).mono ?_); rintro e w' ⟨rfl, ⟨nd, rfl⟩⟩; (try first | exact ⟨rfl, _, World.drewN_drewN _ _ _⟩ | exact ⟨rfl, _, Eq.trans (World.drewN_drewN _ _ _) (congrArg (World.drewN _) (Nat.add_assoc _ _ _))⟩)))
            repeat (go_quiet (first | (go_at_call 36; (with_reducible refine (glacisref05_small.calls (bt a0 x5_1) (x5_1 == 0) true _ A5.out).mono ?_); rintro e w' ⟨rfl, ⟨nd, rfl⟩⟩; (try first | exact ⟨rfl, _, World.drewN_drewN _ _ _⟩ | exact ⟨rfl, _, Eq.trans (World.drewN_drewN _ _ _) (congrArg (World.drewN _) (Nat.add_assoc _ _ _))⟩))); try go_wp2_with (first | (go_at_call 36; (with_reducible refine (glacisref05_small.calls (bt a0 x5_1) (x5_1 == 0) true _ A5.out).mono ?_); rintro e w' ⟨rfl, ⟨nd, rfl⟩⟩; (try first | exact ⟨rfl, _, World.drewN_drewN _ _ _⟩ | exact ⟨rfl, _, Eq.trans (World.drewN_drewN _ _ _) (congrArg (World.drewN _) (Nat.add_assoc _ _ _))⟩))))
            go_roundg k1
            case measure => have := HK1.out; omega
            case rel => exact ⟨(wrap64 (x5_1 + 1)), (by first | rfl | (simp; done) | (simp [*]; done) | (simp [q_ne_nil]; done)), H', ⟨by have := HK1.out; omega⟩, by repeat (first | exact Drawn0.refl _ | apply Drawn0.step)⟩
          · replace c6 := Bool.eq_false_iff.mpr c6
            subst c6
            have H1 : (if x5_1 = 0 then (some ((⟨#[]⟩ : ByteArray), (⟨#[]⟩ : ByteArray), 50)) else (if x5_1 ≤ (a0.size : Int) then (some (a0.extract 0 (x5_1 : Int).toNat, a0.extract (x5_1 : Int).toNat a0.size, 0)) else (none))) = some (r1, r2, r3) := by rw [if_neg (show ¬ (false = true) by decide)] at H; exact H
            clear H
            have H := H1
            clear H1
            by_cases c7 : x5_1 = 0
            · rw [if_pos c7] at H
              have c7b0 : (x5_1 == 0) = true := beq_iff_eq.mpr c7
              have c7b1 : (x5_1 != 0) = false := bne_eq_false_iff_eq.mpr c7
              clear c7
              simp only [Option.some.injEq, Prod.mk.injEq] at H
              obtain ⟨rfl, rfl, rfl⟩ := H
              have p4 : 0 ≤ (x5_1 : Int) := of_decide_eq_true (by first | (with_reducible assumption) | assumption)
              have q4 : x5_1 < (a0.size : Int) := of_decide_eq_true (by first | (with_reducible assumption) | assumption)
              have hx4 := bt_at a0 x5_1
              replace p4 := eq_true p4
              replace q4 := eq_true q4
              go_wp2_with (first | (go_at_call 36; (with_reducible refine (glacisref05_small.calls (bt a0 x5_1) true false _ (by have h_ := A5.out; rw [c7b0] at h_; exact h_)).mono ?_); rintro e w' ⟨rfl, ⟨nd, rfl⟩⟩; (try first | exact ⟨rfl, _, World.drewN_drewN _ _ _⟩ | exact ⟨rfl, _, Eq.trans (World.drewN_drewN _ _ _) (congrArg (World.drewN _) (Nat.add_assoc _ _ _))⟩)))
              repeat (go_quiet (first | (go_at_call 36; (with_reducible refine (glacisref05_small.calls (bt a0 x5_1) true false _ (by have h_ := A5.out; rw [c7b0] at h_; exact h_)).mono ?_); rintro e w' ⟨rfl, ⟨nd, rfl⟩⟩; (try first | exact ⟨rfl, _, World.drewN_drewN _ _ _⟩ | exact ⟨rfl, _, Eq.trans (World.drewN_drewN _ _ _) (congrArg (World.drewN _) (Nat.add_assoc _ _ _))⟩))); try go_wp2_with (first | (go_at_call 36; (with_reducible refine (glacisref05_small.calls (bt a0 x5_1) true false _ (by have h_ := A5.out; rw [c7b0] at h_; exact h_)).mono ?_); rintro e w' ⟨rfl, ⟨nd, rfl⟩⟩; (try first | exact ⟨rfl, _, World.drewN_drewN _ _ _⟩ | exact ⟨rfl, _, Eq.trans (World.drewN_drewN _ _ _) (congrArg (World.drewN _) (Nat.add_assoc _ _ _))⟩))))
              go_ret3
              exact ⟨by first | rfl | (simp; done) | (simp [*]; done) | (simp [q_ne_nil]; done), by repeat (first | exact Drawn0.refl _ | apply Drawn0.step)⟩
            · rw [if_neg c7] at H
              have c7b0 : (x5_1 == 0) = false := beq_eq_false_iff_ne.mpr c7
              have c7b1 : (x5_1 != 0) = true := bne_iff_ne.mpr c7
              have c8b0 := eq_true (of_decide_eq_true (by first | (with_reducible assumption) | assumption) : 0 ≤ x5_1)
              by_cases c9 : x5_1 ≤ (a0.size : Int)
              · rw [if_pos c9] at H
                have c9b0 := eq_true c9
                have c9b1 : decide (x5_1 ≤ (a0.size : Int)) = true := decide_eq_true c9
                clear c9
                have c10b0 := eq_true (of_decide_eq_true (by first | (with_reducible assumption) | assumption) : 0 ≤ x5_1)
                have c11b0 := eq_true (of_decide_eq_true (by first | (with_reducible assumption) | assumption) : x5_1 ≤ (a0.size : Int))
                simp only [Option.some.injEq, Prod.mk.injEq] at H
                obtain ⟨rfl, rfl, rfl⟩ := H
                have p4 : 0 ≤ (x5_1 : Int) := of_decide_eq_true (by first | (with_reducible assumption) | assumption)
                have q4 : x5_1 < (a0.size : Int) := of_decide_eq_true (by first | (with_reducible assumption) | assumption)
                have hx4 := bt_at a0 x5_1
                replace p4 := eq_true p4
                replace q4 := eq_true q4
                go_wp2_with (first | (go_at_call 36; (with_reducible refine (glacisref05_small.calls (bt a0 x5_1) false false _ (by have h_ := A5.out; rw [c7b0] at h_; exact h_)).mono ?_); rintro e w' ⟨rfl, ⟨nd, rfl⟩⟩; (try first | exact ⟨rfl, _, World.drewN_drewN _ _ _⟩ | exact ⟨rfl, _, Eq.trans (World.drewN_drewN _ _ _) (congrArg (World.drewN _) (Nat.add_assoc _ _ _))⟩)))
                repeat (go_quiet (first | (go_at_call 36; (with_reducible refine (glacisref05_small.calls (bt a0 x5_1) false false _ (by have h_ := A5.out; rw [c7b0] at h_; exact h_)).mono ?_); rintro e w' ⟨rfl, ⟨nd, rfl⟩⟩; (try first | exact ⟨rfl, _, World.drewN_drewN _ _ _⟩ | exact ⟨rfl, _, Eq.trans (World.drewN_drewN _ _ _) (congrArg (World.drewN _) (Nat.add_assoc _ _ _))⟩))); try go_wp2_with (first | (go_at_call 36; (with_reducible refine (glacisref05_small.calls (bt a0 x5_1) false false _ (by have h_ := A5.out; rw [c7b0] at h_; exact h_)).mono ?_); rintro e w' ⟨rfl, ⟨nd, rfl⟩⟩; (try first | exact ⟨rfl, _, World.drewN_drewN _ _ _⟩ | exact ⟨rfl, _, Eq.trans (World.drewN_drewN _ _ _) (congrArg (World.drewN _) (Nat.add_assoc _ _ _))⟩))))
                go_ret3
                exact ⟨by first | rfl | (simp; done) | (simp [*]; done) | (simp [q_ne_nil]; done), by repeat (first | exact Drawn0.refl _ | apply Drawn0.step)⟩
              · rw [if_neg c9] at H
                exact absurd H (by simp)
        · rw [if_neg c3] at H
          exact absurd H (by simp)
      · rw [if_neg c2] at H
        have c2b0 : decide (x5_1 < (a0.size : Int)) = false := decide_eq_false c2
        clear c2
        by_cases c12 : x5_1 = 0
        · rw [if_pos c12] at H
          have c12b0 : (x5_1 == 0) = true := beq_iff_eq.mpr c12
          have c12b1 : (x5_1 != 0) = false := bne_eq_false_iff_eq.mpr c12
          clear c12
          simp only [Option.some.injEq, Prod.mk.injEq] at H
          obtain ⟨rfl, rfl, rfl⟩ := H
          go_wp2
          repeat (go_quiet (fail); try go_wp2)
          go_ret3
          exact ⟨by first | rfl | (simp; done) | (simp [*]; done) | (simp [q_ne_nil]; done), by repeat (first | exact Drawn0.refl _ | apply Drawn0.step)⟩
        · rw [if_neg c12] at H
          have c12b0 : (x5_1 == 0) = false := beq_eq_false_iff_ne.mpr c12
          have c12b1 : (x5_1 != 0) = true := bne_iff_ne.mpr c12
          by_cases c13 : 0 ≤ x5_1
          · rw [if_pos c13] at H
            have c13b0 := eq_true c13
            have c13b1 : decide (0 ≤ x5_1) = true := decide_eq_true c13
            clear c13
            by_cases c14 : x5_1 ≤ (a0.size : Int)
            · rw [if_pos c14] at H
              have c14b0 := eq_true c14
              have c14b1 : decide (x5_1 ≤ (a0.size : Int)) = true := decide_eq_true c14
              clear c14
              have c15b0 := eq_true (of_decide_eq_true (by first | (with_reducible assumption) | assumption) : 0 ≤ x5_1)
              have c16b0 := eq_true (of_decide_eq_true (by first | (with_reducible assumption) | assumption) : x5_1 ≤ (a0.size : Int))
              simp only [Option.some.injEq, Prod.mk.injEq] at H
              obtain ⟨rfl, rfl, rfl⟩ := H
              go_wp2
              repeat (go_quiet (fail); try go_wp2)
              go_ret3
              exact ⟨by first | rfl | (simp; done) | (simp [*]; done) | (simp [q_ne_nil]; done), by repeat (first | exact Drawn0.refl _ | apply Drawn0.step)⟩
            · rw [if_neg c14] at H
              exact absurd H (by simp)
          · rw [if_neg c13] at H
            exact absurd H (by simp)
end Go.Proofs.YtbbaokjkmcfceaaGreatDoor.Q
namespace Go.Proofs.YtbbaokjkmcfceaaGreatDoor.Q
open Go.RowKit Go.Proofs.YtbbaokjkmcfceaaGreatDoorW.PrintWords Go.Proofs.YtbbaokjkmcfceaaGreatDoorW.PrintLast Go.Proofs.YtbbaokjkmcfceaaGreatDoorW.PrintMore
set_option linter.unusedVariables false
set_option linter.unusedSimpArgs false
def glacisref01_Letter.f (a0 : Int) : Option (Bool) := if a0 ≥ 97 then (if a0 ≤ 122 then (some true) else (if a0 ≥ 65 then (some (decide (a0 ≤ 90))) else (some false))) else (if a0 ≥ 65 then (some (decide (a0 ≤ 90))) else (some false))
set_option maxHeartbeats 8000000 in
set_option maxRecDepth 100000 in
theorem glacisref01_Letter.calls (a0 : Int) (r : Bool) (w : World) (h : glacisref01_Letter.f a0 = some r) :
    Calls Tryz.prog 61 #[.int .u8 a0] w fun e w' => e = .returned (.bool r) ∧ Drawn0 w w' := by
  have H : (if a0 ≥ 97 then (if a0 ≤ 122 then (some true) else (if a0 ≥ 65 then (some (decide (a0 ≤ 90))) else (some false))) else (if a0 ≥ 65 then (some (decide (a0 ≤ 90))) else (some false))) = some r := h
  clear h
  by_cases c2 : a0 ≥ 97
  · rw [if_pos c2] at H
    have c2b0 : decide (97 ≤ a0) = true := decide_eq_true c2
    clear c2
    by_cases c3 : a0 ≤ 122
    · rw [if_pos c3] at H
      have c3b0 : decide (a0 ≤ 122) = true := decide_eq_true c3
      clear c3
      obtain rfl := Option.some.inj H
      go_enter Tryz.func61, Tryz.ntmps61
      go_wp2
      go_ret
      exact ⟨by first | rfl | (simp; done) | (simp [*]; done) | (simp [q_ne_nil]; done), by repeat (first | exact Drawn0.refl _ | apply Drawn0.step)⟩
    · rw [if_neg c3] at H
      have c3b0 : decide (a0 ≤ 122) = false := decide_eq_false c3
      clear c3
      by_cases c4 : a0 ≥ 65
      · rw [if_pos c4] at H
        have c4b0 : decide (65 ≤ a0) = true := decide_eq_true c4
        clear c4
        obtain rfl := Option.some.inj H
        go_enter Tryz.func61, Tryz.ntmps61
        go_wp2
        go_ret
        exact ⟨by first | rfl | (simp; done) | (simp [*]; done) | (simp [q_ne_nil]; done), by repeat (first | exact Drawn0.refl _ | apply Drawn0.step)⟩
      · rw [if_neg c4] at H
        have c4b0 : decide (65 ≤ a0) = false := decide_eq_false c4
        clear c4
        obtain rfl := Option.some.inj H
        go_enter Tryz.func61, Tryz.ntmps61
        go_wp2
        go_ret
        exact ⟨by first | rfl | (simp; done) | (simp [*]; done) | (simp [q_ne_nil]; done), by repeat (first | exact Drawn0.refl _ | apply Drawn0.step)⟩
  · rw [if_neg c2] at H
    have c2b0 : decide (97 ≤ a0) = false := decide_eq_false c2
    clear c2
    by_cases c5 : a0 ≥ 65
    · rw [if_pos c5] at H
      have c5b0 : decide (65 ≤ a0) = true := decide_eq_true c5
      clear c5
      obtain rfl := Option.some.inj H
      go_enter Tryz.func61, Tryz.ntmps61
      go_wp2
      go_ret
      exact ⟨by first | rfl | (simp; done) | (simp [*]; done) | (simp [q_ne_nil]; done), by repeat (first | exact Drawn0.refl _ | apply Drawn0.step)⟩
    · rw [if_neg c5] at H
      have c5b0 : decide (65 ≤ a0) = false := decide_eq_false c5
      clear c5
      obtain rfl := Option.some.inj H
      go_enter Tryz.func61, Tryz.ntmps61
      go_wp2
      go_ret
      exact ⟨by first | rfl | (simp; done) | (simp [*]; done) | (simp [q_ne_nil]; done), by repeat (first | exact Drawn0.refl _ | apply Drawn0.step)⟩
def glacisref01_Digit.f (a0 : Int) : Option (Bool) := if a0 ≥ 48 then (some (decide (a0 ≤ 57))) else (some false)
set_option maxHeartbeats 8000000 in
set_option maxRecDepth 100000 in
theorem glacisref01_Digit.calls (a0 : Int) (r : Bool) (w : World) (h : glacisref01_Digit.f a0 = some r) :
    Calls Tryz.prog 62 #[.int .u8 a0] w fun e w' => e = .returned (.bool r) ∧ Drawn0 w w' := by
  have H : (if a0 ≥ 48 then (some (decide (a0 ≤ 57))) else (some false)) = some r := h
  clear h
  by_cases c2 : a0 ≥ 48
  · rw [if_pos c2] at H
    have c2b0 : decide (48 ≤ a0) = true := decide_eq_true c2
    clear c2
    obtain rfl := Option.some.inj H
    go_enter Tryz.func62, Tryz.ntmps62
    go_wp2
    go_ret
    exact ⟨by first | rfl | (simp; done) | (simp [*]; done) | (simp [q_ne_nil]; done), by repeat (first | exact Drawn0.refl _ | apply Drawn0.step)⟩
  · rw [if_neg c2] at H
    have c2b0 : decide (48 ≤ a0) = false := decide_eq_false c2
    clear c2
    obtain rfl := Option.some.inj H
    go_enter Tryz.func62, Tryz.ntmps62
    go_wp2
    go_ret
    exact ⟨by first | rfl | (simp; done) | (simp [*]; done) | (simp [q_ne_nil]; done), by repeat (first | exact Drawn0.refl _ | apply Drawn0.step)⟩
def glacisref05_digits.l0 : Nat → ByteArray → Int → Option (Int)
  | 0, _, _ => none
  | k + 1, x0, x3 => if x3 < (x0.size : Int) then (if 0 ≤ x3 then ((glacisref01_Digit.f (bt x0 x3)).bind fun t154 => (if t154 = true then (glacisref05_digits.l0 k x0 (wrap64 (x3 + 1))) else (some x3))) else (none)) else (some x3)
def glacisref05_digits.f (k : Nat) (a0 : ByteArray) : Option (Int) := glacisref05_digits.l0 k a0 0
set_option maxHeartbeats 8000000 in
set_option maxRecDepth 100000 in
theorem glacisref05_digits.calls (k : Nat) (a0 : ByteArray) (r : Int) (w : World) (h : glacisref05_digits.f k a0 = some r) :
    Calls Tryz.prog 76 #[.string a0] w fun e w' => e = .returned (.int .i64 r) ∧ Drawn0 w w' := by
  have H : (glacisref05_digits.l0 k a0 0) = some r := h
  clear h
  have H' := Aside0.mk H
  clear H
  go_enter Tryz.func76, Tryz.ntmps76
  go_wp2
  go_loopg [3] k (fun kq v3 w' => ∃ (x3_1 : Int), v3 = .int .i64 x3_1 ∧ Aside0 (glacisref05_digits.l0 kq a0 x3_1 = some r) ∧ Aside0 (kq ≤ k) ∧ Drawn0 w w')
  case atStart => exact ⟨(0), (by first | rfl | (simp; done) | (simp [*]; done) | (simp [q_ne_nil]; done)), H', ⟨Nat.le_refl _⟩, by repeat (first | exact Drawn0.refl _ | apply Drawn0.step)⟩
  case round =>
    clear H'
    obtain ⟨x3_1, rfl, HA, HK1, ⟨m1, rfl⟩⟩ := hrel
    cases gk with
    | zero => exact absurd HA.out (by simp [glacisref05_digits.l0])
    | succ k1 =>
      have H := HA.out
      clear HA
      simp only [glacisref05_digits.l0] at H
      by_cases c2 : x3_1 < (a0.size : Int)
      · rw [if_pos c2] at H
        have c2b0 : decide (x3_1 < (a0.size : Int)) = true := decide_eq_true c2
        clear c2
        by_cases c3 : 0 ≤ x3_1
        · rw [if_pos c3] at H
          have c3b0 : decide (0 ≤ x3_1) = true := decide_eq_true c3
          clear c3
          replace H := Option.bind_eq_some_iff.mp H
          obtain ⟨t154, A50, H⟩ := H
          replace H : (if t154 = true then (glacisref05_digits.l0 k1 a0 (wrap64 (x3_1 + 1))) else (some x3_1)) = some r := H
          have A5 := Aside0.mk A50
          clear A50
          by_cases c6 : t154 = true
          · subst c6
            have H1 : (glacisref05_digits.l0 k1 a0 (wrap64 (x3_1 + 1))) = some r := by rw [if_pos rfl] at H; exact H
            clear H
            have H := H1
            clear H1
            have H' := Aside0.mk H
            clear H
            have p4 : 0 ≤ (x3_1 : Int) := of_decide_eq_true (by first | (with_reducible assumption) | assumption)
            have q4 : x3_1 < (a0.size : Int) := of_decide_eq_true (by first | (with_reducible assumption) | assumption)
            have hx4 := bt_at a0 x3_1
            replace p4 := eq_true p4
            replace q4 := eq_true q4
            go_wp2_with (first | (go_at_call 62; (with_reducible refine (glacisref01_Digit.calls (bt a0 x3_1) true _ A5.out).mono ?_); rintro e w' ⟨rfl, ⟨nd, rfl⟩⟩))
            go_roundg k1
            case measure => have := HK1.out; omega
            case rel => exact ⟨(wrap64 (x3_1 + 1)), (by first | rfl | (simp; done) | (simp [*]; done) | (simp [q_ne_nil]; done)), H', ⟨by have := HK1.out; omega⟩, by repeat (first | exact Drawn0.refl _ | apply Drawn0.step)⟩
          · replace c6 := Bool.eq_false_iff.mpr c6
            subst c6
            have H1 : (some x3_1) = some r := by rw [if_neg (show ¬ (false = true) by decide)] at H; exact H
            clear H
            have H := H1
            clear H1
            obtain rfl := Option.some.inj H
            have p4 : 0 ≤ (x3_1 : Int) := of_decide_eq_true (by first | (with_reducible assumption) | assumption)
            have q4 : x3_1 < (a0.size : Int) := of_decide_eq_true (by first | (with_reducible assumption) | assumption)
            have hx4 := bt_at a0 x3_1
            replace p4 := eq_true p4
            replace q4 := eq_true q4
            go_wp2_with (first | (go_at_call 62; (with_reducible refine (glacisref01_Digit.calls (bt a0 x3_1) false _ A5.out).mono ?_); rintro e w' ⟨rfl, ⟨nd, rfl⟩⟩))
            go_ret
            exact ⟨by first | rfl | (simp; done) | (simp [*]; done) | (simp [q_ne_nil]; done), by repeat (first | exact Drawn0.refl _ | apply Drawn0.step)⟩
        · rw [if_neg c3] at H
          exact absurd H (by simp)
      · rw [if_neg c2] at H
        have c2b0 : decide (x3_1 < (a0.size : Int)) = false := decide_eq_false c2
        clear c2
        obtain rfl := Option.some.inj H
        go_wp2
        go_ret
        exact ⟨by first | rfl | (simp; done) | (simp [*]; done) | (simp [q_ne_nil]; done), by repeat (first | exact Drawn0.refl _ | apply Drawn0.step)⟩
def glacisref05_told.l0 : Nat → ByteArray → Int → Int → Option (Int)
  | 0, _, _, _ => none
  | k + 1, x0, x3, x4 => if x4 < (x0.size : Int) then (if 0 ≤ x4 then (glacisref05_told.l0 k x0 (wrap64 ((wrap64 (10 * x3)) + (((bt x0 x4) - 48) % 256))) (wrap64 (x4 + 1))) else (none)) else (some x3)
def glacisref05_told.f (k : Nat) (a0 : ByteArray) : Option (Int) := glacisref05_told.l0 k a0 0 0
set_option maxHeartbeats 8000000 in
set_option maxRecDepth 100000 in
theorem glacisref05_told.calls (k : Nat) (a0 : ByteArray) (r : Int) (w : World) (h : glacisref05_told.f k a0 = some r) :
    Calls Tryz.prog 77 #[.string a0] w fun e w' => e = .returned (.int .i64 r) ∧ Drawn0 w w' := by
  have H : (glacisref05_told.l0 k a0 0 0) = some r := h
  clear h
  have H' := Aside0.mk H
  clear H
  go_enter Tryz.func77, Tryz.ntmps77
  go_wp2
  go_loopg [3, 4] k (fun kq v3 v4 w' => ∃ (x3_1 : Int) (x4_1 : Int), v3 = .int .i64 x3_1 ∧ v4 = .int .i64 x4_1 ∧ Aside0 (glacisref05_told.l0 kq a0 x3_1 x4_1 = some r) ∧ Aside0 (kq ≤ k) ∧ Drawn0 w w')
  case atStart => exact ⟨(0), (0), (by first | rfl | (simp; done) | (simp [*]; done) | (simp [q_ne_nil]; done)), (by first | rfl | (simp; done) | (simp [*]; done) | (simp [q_ne_nil]; done)), H', ⟨Nat.le_refl _⟩, by repeat (first | exact Drawn0.refl _ | apply Drawn0.step)⟩
  case round =>
    clear H'
    obtain ⟨x3_1, x4_1, rfl, rfl, HA, HK1, ⟨m1, rfl⟩⟩ := hrel
    cases gk with
    | zero => exact absurd HA.out (by simp [glacisref05_told.l0])
    | succ k1 =>
      have H := HA.out
      clear HA
      simp only [glacisref05_told.l0] at H
      by_cases c2 : x4_1 < (a0.size : Int)
      · rw [if_pos c2] at H
        have c2b0 : decide (x4_1 < (a0.size : Int)) = true := decide_eq_true c2
        clear c2
        by_cases c3 : 0 ≤ x4_1
        · rw [if_pos c3] at H
          have c3b0 : decide (0 ≤ x4_1) = true := decide_eq_true c3
          clear c3
          have H' := Aside0.mk H
          clear H
          have p4 : 0 ≤ (x4_1 : Int) := of_decide_eq_true (by first | (with_reducible assumption) | assumption)
          have q4 : x4_1 < (a0.size : Int) := of_decide_eq_true (by first | (with_reducible assumption) | assumption)
          have hx4 := bt_at a0 x4_1
          replace p4 := eq_true p4
          replace q4 := eq_true q4
          go_wp2
          go_roundg k1
          case measure => have := HK1.out; omega
          case rel => exact ⟨(wrap64 ((wrap64 (10 * x3_1)) + (((bt a0 x4_1) - 48) % 256))), (wrap64 (x4_1 + 1)), (by first | rfl | (simp; done) | (simp [*]; done) | (simp [q_ne_nil]; done)), (by first | rfl | (simp; done) | (simp [*]; done) | (simp [q_ne_nil]; done)), H', ⟨by have := HK1.out; omega⟩, by repeat (first | exact Drawn0.refl _ | apply Drawn0.step)⟩
        · rw [if_neg c3] at H
          exact absurd H (by simp)
      · rw [if_neg c2] at H
        have c2b0 : decide (x4_1 < (a0.size : Int)) = false := decide_eq_false c2
        clear c2
        obtain rfl := Option.some.inj H
        go_wp2
        go_ret
        exact ⟨by first | rfl | (simp; done) | (simp [*]; done) | (simp [q_ne_nil]; done), by repeat (first | exact Drawn0.refl _ | apply Drawn0.step)⟩
end Go.Proofs.YtbbaokjkmcfceaaGreatDoor.Q
namespace Go.Proofs.YtbbaokjkmcfceaaGreatDoor.Q
open Go.RowKit Go.Proofs.YtbbaokjkmcfceaaGreatDoorW.PrintWords Go.Proofs.YtbbaokjkmcfceaaGreatDoorW.PrintLast Go.Proofs.YtbbaokjkmcfceaaGreatDoorW.PrintMore
set_option linter.unusedVariables false
set_option linter.unusedSimpArgs false
mutual
def glacisref05_number.j0 : Nat → ByteArray → Int → Option (ByteArray × Int × Int × ByteArray × ByteArray × Bool)
  | 0, _, _ => none
  | k + 1, x0, x5 => (glacisref05_digits.f k x0).bind fun t156 => (if t156 = 0 then (glacisref05_number.j1 k x0 x5 t156 true) else (glacisref05_number.j1 k x0 x5 t156 (decide (t156 > 15))))
def glacisref05_number.j1 : Nat → ByteArray → Int → Int → Bool → Option (ByteArray × Int × Int × ByteArray × ByteArray × Bool)
  | 0, _, _, _, _ => none
  | k + 1, x0, x5, x6, x22 => if x22 = true then (some ((⟨#[]⟩ : ByteArray), 0, 0, (⟨#[]⟩ : ByteArray), (⟨#[]⟩ : ByteArray), false)) else (if x6 = (x0.size : Int) then (glacisref05_number.j2 k x0 x5 x6 true) else (if 0 ≤ x6 then (if x6 < (x0.size : Int) then (glacisref05_number.j2 k x0 x5 x6 ((bt x0 x6) != 46)) else (none)) else (none)))
def glacisref05_number.j2 : Nat → ByteArray → Int → Int → Bool → Option (ByteArray × Int × Int × ByteArray × ByteArray × Bool)
  | 0, _, _, _, _ => none
  | k + 1, x0, x5, x6, x33 => if x33 = true then (if 0 ≤ x6 then (if x6 ≤ (x0.size : Int) then ((glacisref05_told.f k (x0.extract 0 (x6 : Int).toNat)).bind fun t157 => (some ((⟨#[]⟩ : ByteArray), 1, wrap64 (x5 * t157), (⟨#[]⟩ : ByteArray), x0.extract (x6 : Int).toNat x0.size, true))) else (none)) else (none)) else (if 0 ≤ (wrap64 (x6 + 1)) then (if (wrap64 (x6 + 1)) ≤ (x0.size : Int) then ((glacisref05_digits.f k (x0.extract ((wrap64 (x6 + 1)) : Int).toNat x0.size)).bind fun t158 => (if x6 > 12 then (glacisref05_number.j3 k x0 x5 x6 t158 true) else (if t158 < 1 then (glacisref05_number.j3 k x0 x5 x6 t158 true) else (glacisref05_number.j3 k x0 x5 x6 t158 (decide (t158 > 3)))))) else (none)) else (none))
def glacisref05_number.j3 : Nat → ByteArray → Int → Int → Int → Bool → Option (ByteArray × Int × Int × ByteArray × ByteArray × Bool)
  | 0, _, _, _, _, _ => none
  | k + 1, x0, x5, x6, x7, x58 => if x58 = true then (some ((⟨#[]⟩ : ByteArray), 0, 0, (⟨#[]⟩ : ByteArray), (⟨#[]⟩ : ByteArray), false)) else (if 0 ≤ x6 then (if x6 ≤ (x0.size : Int) then (if 0 ≤ (wrap64 (x6 + 1)) then (if (wrap64 (x6 + 1)) ≤ (wrap64 ((wrap64 (x6 + 1)) + x7)) then (if (wrap64 ((wrap64 (x6 + 1)) + x7)) ≤ (x0.size : Int) then (if (x0.extract 0 (x6 : Int).toNat).size + (x0.extract ((wrap64 (x6 + 1)) : Int).toNat ((wrap64 ((wrap64 (x6 + 1)) + x7)) : Int).toNat).size ≤ 9223372036854775807 then ((glacisref05_told.f k ((x0.extract 0 (x6 : Int).toNat) ++ (x0.extract ((wrap64 (x6 + 1)) : Int).toNat ((wrap64 ((wrap64 (x6 + 1)) + x7)) : Int).toNat))).bind fun t159 => (glacisref05_number.l0 k x0 x5 x6 x7 t159 x7)) else (none)) else (none)) else (none)) else (none)) else (none)) else (none))
def glacisref05_number.l0 : Nat → ByteArray → Int → Int → Int → Int → Int → Option (ByteArray × Int × Int × ByteArray × ByteArray × Bool)
  | 0, _, _, _, _, _, _ => none
  | k + 1, x0, x5, x6, x7, x8, x9 => if x9 < 3 then (glacisref05_number.l0 k x0 x5 x6 x7 (wrap64 (10 * x8)) (wrap64 (x9 + 1))) else (if 0 ≤ (wrap64 ((wrap64 (x6 + 1)) + x7)) then (if (wrap64 ((wrap64 (x6 + 1)) + x7)) ≤ (x0.size : Int) then (some ((⟨#[]⟩ : ByteArray), 2, wrap64 (x5 * x8), (⟨#[]⟩ : ByteArray), x0.extract ((wrap64 ((wrap64 (x6 + 1)) + x7)) : Int).toNat x0.size, true)) else (none)) else (none))
end
def glacisref05_number.f (k : Nat) (a0 : ByteArray) : Option (ByteArray × Int × Int × ByteArray × ByteArray × Bool) := if 0 < (a0.size : Int) then (if (bt a0 0) = 45 then (if 1 ≤ (a0.size : Int) then (glacisref05_number.j0 k (a0.extract 1 a0.size) (-1)) else (none)) else (glacisref05_number.j0 k a0 1)) else (none)
def glacisref05_number.T9 : Bool × List (List Nat × List Nat) := (true, [([], []), ([], []), ([], []), ([1, 2], [1, 2]), ([3], [3]), ([0, 4], [0, 4]), ([5], [5]), ([], []), ([], []), ([7, 8], [7, 8]), ([6, 4, 0, 1, 2, 3, 4, 5, 6], [6]), ([9, 10, 0, 1, 2, 3, 4, 5, 6, 7, 8, 9, 10], [9]), ([11, 0, 1, 2, 3, 4, 5, 6, 7, 8, 9, 10, 11], [])])
def glacisref05_number.B9 : List Nat := [0, 0, 0, 6, 14, 31, 63, 0, 0, 384, 127, 2047, 4095]
theorem glacisref05_number.tab9 : rtab .any (opsOf Tryz.f63 9) = glacisref05_number.T9 := by kernel_rfl
theorem glacisref05_number.bits9 : waitsOk glacisref05_number.T9.2 glacisref05_number.B9 = true := by kernel_rfl
def glacisref05_number.T13 : Bool × List (List Nat × List Nat) := (true, [([], []), ([], []), ([0, 1], [0, 1]), ([], []), ([], []), ([4], [4]), ([], []), ([6], [6]), ([], []), ([7, 8], [7, 8]), ([3, 5, 9], [3, 5, 9]), ([2, 10], [2, 10]), ([11], [11]), ([12, 12, 0, 1, 2, 3, 4, 5, 6, 7, 8, 9, 10, 11, 12], [12])])
def glacisref05_number.B13 : List Nat := [0, 0, 3, 0, 0, 16, 0, 64, 0, 448, 1016, 2047, 4095, 8191]
theorem glacisref05_number.tab13 : rtab .any (opsOf Tryz.f63 13) = glacisref05_number.T13 := by kernel_rfl
theorem glacisref05_number.bits13 : waitsOk glacisref05_number.T13.2 glacisref05_number.B13 = true := by kernel_rfl
def glacisref05_number.T18 : Bool × List (List Nat × List Nat) := (true, [([], []), ([], []), ([0, 1], [0, 1]), ([2], [2]), ([], []), ([], []), ([5], [5]), ([], []), ([6, 7], [6, 7]), ([4, 8], [4, 8]), ([3, 0, 1, 2, 3], [3]), ([9, 10, 0, 1, 2, 3, 4, 5, 6, 7, 8, 9, 10], [9]), ([11, 0, 1, 2, 3, 4, 5, 6, 7, 8, 9, 10, 11], [])])
def glacisref05_number.B18 : List Nat := [0, 0, 3, 7, 0, 0, 32, 0, 224, 496, 15, 2047, 4095]
theorem glacisref05_number.tab18 : rtab .any (opsOf Tryz.f63 18) = glacisref05_number.T18 := by kernel_rfl
theorem glacisref05_number.bits18 : waitsOk glacisref05_number.T18.2 glacisref05_number.B18 = true := by kernel_rfl
set_option maxHeartbeats 8000000 in
set_option maxRecDepth 100000 in
theorem glacisref05_number.calls (k : Nat) (a0 : ByteArray) (r1 : ByteArray) (r2 : Int) (r3 : Int) (r4 : ByteArray) (r5 : ByteArray) (r6 : Bool) (w : World) (h : glacisref05_number.f k a0 = some (r1, r2, r3, r4, r5, r6)) :
    Calls Tryz.prog 63 #[.string a0] w fun e w' => e = .returned (.tuple #[.agg #[.string r1, .int .i64 r2, .int .i64 r3, .string r4], .string r5, .bool r6]) ∧ Below w.heap.size w w' := by
  have hu43 := Tryz.underlying43
  have HB := Aside0.mk (Below.refl w.heap.size w)
  have H : (if 0 < (a0.size : Int) then (if (bt a0 0) = 45 then (if 1 ≤ (a0.size : Int) then (glacisref05_number.j0 k (a0.extract 1 a0.size) (-1)) else (none)) else (glacisref05_number.j0 k a0 1)) else (none)) = some (r1, r2, r3, r4, r5, r6) := h
  clear h
  by_cases c2 : 0 < (a0.size : Int)
  · rw [if_pos c2] at H
    have c2b0 : decide (0 < (a0.size : Int)) = true := decide_eq_true c2
    have c2b1 : decide (0 < a0.size) = true := decide_eq_true (by omega)
    clear c2
    have HC4 := Aside0.mk H
    clear H
    go_enter Tryz.func63, Tryz.ntmps63
    go_upto_if 12 with (first | ((with_reducible refine gate_dst (N := 2) rfl ?_); refine box_event ?hg (N := 2) ?hd (cs := #[.string (⟨#[]⟩ : ByteArray), .int .i64 0, .int .i64 0, .string (⟨#[]⟩ : ByteArray)]) (t := 43) ?hr ?_; (case hd => rfl); (case hg => rfl); (case hr => first | (go_simp; done) | (go_simp; rfl)); intro gb155 hg w5 hbox hb; have n0_ := Aside0.mk (below_step (by repeat (first | (with_reducible first | exact HB.out | apply below_alloc | apply pw_below_drewN | apply below_drew1) | exact HB.out)) hb); have n1_ := Aside0.mk (hbox); have n2_ := Aside0.mk ((by rw [hg]; exact (below_size (by repeat (first | (with_reducible first | exact HB.out | apply below_alloc | apply pw_below_drewN | apply below_drew1) | exact HB.out))) : w.heap.size ≤ gb155)); have n3_ := Aside0.mk ((by rw [hg]; exact (below_size (by repeat (first | (with_reducible first | exact HB.out | apply below_alloc | apply pw_below_drewN | apply below_drew1) | exact HB.out))) : w.heap.size ≤ gb155)); clear HB; have HB := n0_; have BK155 := n1_; have GW155 := n2_; have GE155 := n3_; clear n0_ n1_ n2_ n3_; clear hb hbox hg; have p3 : 0 ≤ (0 : Int) := (by omega); have q3 : 0 < a0.size := (by have : (0 : Int) < (a0.size : Int) := of_decide_eq_true (by first | (with_reducible assumption) | assumption); omega); have hx3 : ∀ h : 0 < a0.size, ((a0[0]'h).toNat : Int) = bt a0 0 := bt_at a0 0; clear p3; have qi3 : (0 < (a0.size : Int)) = True := eq_true (of_decide_eq_true (by first | (with_reducible assumption) | assumption)); replace q3 := eq_true q3))
    (try simp only [Act.put, List.setIfInBounds_toArray, List.set_cons_zero, List.set_cons_succ])
    go_cut [0, 5] (fun v0 v5 wc => ∃ (kq : Nat) (x0_3 : ByteArray) (x5_3 : Int), v0 = .string x0_3 ∧ v5 = .int .i64 x5_3 ∧ Aside0 (glacisref05_number.j0 kq x0_3 x5_3 = some (r1, r2, r3, r4, r5, r6)) ∧ Aside0 (kq ≤ k) ∧ Aside0 (wc.heap[gb155]? = some (.cells #[.string (⟨#[]⟩ : ByteArray), .int .i64 0, .int .i64 0, .string (⟨#[]⟩ : ByteArray)] 43 (0, 0))) ∧ Aside0 (Below w.heap.size w wc))
    case first =>
      have H := HC4.out
      clear HC4
      by_cases c6 : (bt a0 0) = 45
      · rw [if_pos c6] at H
        have c6b0 : ((bt a0 0) == 45) = true := beq_iff_eq.mpr c6
        have c6b1 : ((bt a0 0) != 45) = false := bne_eq_false_iff_eq.mpr c6
        clear c6
        (first | rw [c6b0] | (simp only [i64_w, i32_w]; rw [c6b0]) | skip)
        by_cases c7 : 1 ≤ (a0.size : Int)
        · rw [if_pos c7] at H
          have c7b0 := eq_true c7
          have c7b1 : decide (1 ≤ (a0.size : Int)) = true := decide_eq_true c7
          clear c7
          have H' := Aside0.mk H
          clear H
          go_wp2
          go_meet
          case rel => exact ⟨_, (a0.extract 1 a0.size), ((-1)), (by first | rfl | (simp; done) | (simp [*]; done) | (simp [q_ne_nil]; done)), (by first | rfl | (simp; done) | (simp [*]; done) | (simp [q_ne_nil]; done)), H', ⟨by first | omega | exact Nat.le_refl _⟩, ⟨by (with_reducible repeat (first | refine blk_drewN ?_ _ | refine blk_drew ?_ | refine blk_alloc ?_ _)); exact BK155.out⟩, ⟨by repeat (first | (with_reducible first | exact HB.out | apply below_alloc | apply pw_below_drewN | apply below_drew1 | refine below_set ?_ GE155.out) | exact HB.out)⟩⟩
        · rw [if_neg c7] at H
          exact absurd H (by simp)
      · rw [if_neg c6] at H
        have c6b0 : ((bt a0 0) == 45) = false := beq_eq_false_iff_ne.mpr c6
        have c6b1 : ((bt a0 0) != 45) = true := bne_iff_ne.mpr c6
        (first | rw [c6b0] | (simp only [i64_w, i32_w]; rw [c6b0]) | skip)
        have H' := Aside0.mk H
        clear H
        go_wp2
        go_meet
        case rel => exact ⟨_, (a0), (1), (by first | rfl | (simp; done) | (simp [*]; done) | (simp [q_ne_nil]; done)), (by first | rfl | (simp; done) | (simp [*]; done) | (simp [q_ne_nil]; done)), H', ⟨by first | omega | exact Nat.le_refl _⟩, ⟨by (with_reducible repeat (first | refine blk_drewN ?_ _ | refine blk_drew ?_ | refine blk_alloc ?_ _)); exact BK155.out⟩, ⟨by repeat (first | (with_reducible first | exact HB.out | apply below_alloc | apply pw_below_drewN | apply below_drew1 | refine below_set ?_ GE155.out) | exact HB.out)⟩⟩
    case rest =>
      clear HC4
      try clear c2
      try clear c2b0
      try clear c2b1
      try clear p2
      try clear p3
      try clear q3
      try clear hx3
      try clear qi3
      try clear c6
      try clear c6b0
      try clear c6b1
      try clear c7
      try clear c7b0
      try clear c7b1
      try clear p3
      try clear q3
      obtain ⟨kq, x0_3, x5_3, rfl, rfl, HA, HJ3, BK155, HB⟩ := hcut
      cases kq with
      | zero => exact absurd HA.out (by simp [glacisref05_number.j0])
      | succ kj3 =>
        have H := HA.out
        clear HA
        simp only [glacisref05_number.j0] at H
        replace H := Option.bind_eq_some_iff.mp H
        obtain ⟨t156, A80, H⟩ := H
        replace H : (if t156 = 0 then (glacisref05_number.j1 kj3 x0_3 x5_3 t156 true) else (glacisref05_number.j1 kj3 x0_3 x5_3 t156 (decide (t156 > 15)))) = some (r1, r2, r3, r4, r5, r6) := H
        have A8 := Aside0.mk A80
        clear A80
        have HC9 := Aside0.mk H
        clear H
        go_upto_region 6 with (first | ((with_reducible refine gate_callee (f := 76) rfl ?_); refine goesL_ (some 16) rfl rfl Tryz.func76 (by kernel_rfl) rfl #[.string x0_3] rfl (by (try simp only [List.map_toArray, List.map_cons, List.map_nil]); first | done | rfl | (simp only [List.length_drop, List.length_take]; rfl)) ?_; (with_reducible refine (glacisref05_digits.calls kj3 x0_3 t156 _ A8.out).mono ?_); rintro e w' ⟨rfl, ⟨nd, rfl⟩⟩; refine ⟨_, rfl, ?_⟩))
        (try simp only [Act.put, List.setIfInBounds_toArray, List.set_cons_zero, List.set_cons_succ])
        go_cut [22] (fun v22 wc => ∃ (kq : Nat) (x22_8 : Bool), v22 = .bool x22_8 ∧ Aside0 (glacisref05_number.j1 kq x0_3 x5_3 t156 x22_8 = some (r1, r2, r3, r4, r5, r6)) ∧ Aside0 (kq ≤ kj3) ∧ Aside0 (wc.heap[gb155]? = some (.cells #[.string (⟨#[]⟩ : ByteArray), .int .i64 0, .int .i64 0, .string (⟨#[]⟩ : ByteArray)] 43 (0, 0))) ∧ Aside0 (Below w.heap.size w wc))
        case first =>
          have H := HC9.out
          clear HC9
          by_cases c10 : t156 = 0
          · rw [if_pos c10] at H
            have c10b0 : (t156 == 0) = true := beq_iff_eq.mpr c10
            have c10b1 : (t156 != 0) = false := bne_eq_false_iff_eq.mpr c10
            clear c10
            (first | rw [c10b0] | (simp only [i64_w, i32_w]; rw [c10b0]) | skip)
            have H' := Aside0.mk H
            clear H
            go_wp2
            go_meet
            case rel => exact ⟨_, (true), (by first | rfl | (simp; done) | (simp [*]; done) | (simp [q_ne_nil]; done)), H', ⟨by have := HJ3.out; first | omega | exact Nat.le_refl _⟩, ⟨by (with_reducible repeat (first | refine blk_drewN ?_ _ | refine blk_drew ?_ | refine blk_alloc ?_ _)); exact BK155.out⟩, ⟨by repeat (first | (with_reducible first | exact HB.out | apply below_alloc | apply pw_below_drewN | apply below_drew1 | refine below_set ?_ GE155.out) | exact HB.out)⟩⟩
          · rw [if_neg c10] at H
            have c10b0 : (t156 == 0) = false := beq_eq_false_iff_ne.mpr c10
            have c10b1 : (t156 != 0) = true := bne_iff_ne.mpr c10
            (first | rw [c10b0] | (simp only [i64_w, i32_w]; rw [c10b0]) | skip)
            have H' := Aside0.mk H
            clear H
            go_wp2
            go_meet
            case rel => exact ⟨_, (decide (t156 > 15)), (by first | rfl | (simp; done) | (simp [*]; done) | (simp [q_ne_nil]; done)), H', ⟨by have := HJ3.out; first | omega | exact Nat.le_refl _⟩, ⟨by (with_reducible repeat (first | refine blk_drewN ?_ _ | refine blk_drew ?_ | refine blk_alloc ?_ _)); exact BK155.out⟩, ⟨by repeat (first | (with_reducible first | exact HB.out | apply below_alloc | apply pw_below_drewN | apply below_drew1 | refine below_set ?_ GE155.out) | exact HB.out)⟩⟩
        case rest =>
          clear HC9
          try clear c1
          try clear c2
          try clear c2b0
          try clear c2b1
          try clear p2
          try clear p3
          try clear q3
          try clear hx3
          try clear qi3
          try clear c6
          try clear c6b0
          try clear c6b1
          try clear c7
          try clear c7b0
          try clear c7b1
          try clear c10
          try clear c10b0
          try clear c10b1
          try clear p2
          try clear p3
          try clear q3
          obtain ⟨kq, x22_8, rfl, HA, HJ8, BK155, HB⟩ := hcut
          cases kq with
          | zero => exact absurd HA.out (by simp [glacisref05_number.j1])
          | succ kj8 =>
            have H := HA.out
            clear HA
            simp only [glacisref05_number.j1] at H
            by_cases c11 : x22_8 = true
            · subst c11
              have H1 : (some ((⟨#[]⟩ : ByteArray), 0, 0, (⟨#[]⟩ : ByteArray), (⟨#[]⟩ : ByteArray), false)) = some (r1, r2, r3, r4, r5, r6) := by rw [if_pos rfl] at H; exact H
              clear H
              have H := H1
              clear H1
              simp only [Option.some.injEq, Prod.mk.injEq] at H
              obtain ⟨rfl, rfl, rfl, rfl, rfl, rfl⟩ := H
              have hcz12_0 : wc.cell? ⟨gb155, 0, none⟩ = some (.string (⟨#[]⟩ : ByteArray)) := (blk_cell BK155.out 0).trans rfl
              have hcz12_1 : wc.cell? ⟨gb155, 1, none⟩ = some (.int .i64 0) := (blk_cell BK155.out 1).trans rfl
              have hcz12_2 : wc.cell? ⟨gb155, 2, none⟩ = some (.int .i64 0) := (blk_cell BK155.out 2).trans rfl
              have hcz12_3 : wc.cell? ⟨gb155, 3, none⟩ = some (.string (⟨#[]⟩ : ByteArray)) := (blk_cell BK155.out 3).trans rfl
              have hfz12_0 := blk_frozen BK155.out 0
              have hfz12_1 := blk_frozen BK155.out 1
              have hfz12_2 := blk_frozen BK155.out 2
              have hfz12_3 := blk_frozen BK155.out 3
              go_wp2
              refine bodyPost_ret (results_ctt rfl _ _ gb155 43 #[.string (⟨#[]⟩ : ByteArray), .int .i64 0, .int .i64 0, .string (⟨#[]⟩ : ByteArray)] (0, 0) _ rfl (by (with_reducible repeat (first | refine blk_drewN ?_ _ | refine blk_drew ?_ | refine blk_alloc ?_ _)); refine blk_put (cs := #[.string (⟨#[]⟩ : ByteArray), .int .i64 0, .int .i64 0, .string (⟨#[]⟩ : ByteArray)]) ?_ 3 _ rfl; (with_reducible repeat (first | refine blk_drewN ?_ _ | refine blk_drew ?_ | refine blk_alloc ?_ _)); refine blk_put (cs := #[.string (⟨#[]⟩ : ByteArray), .int .i64 0, .int .i64 0, .string (⟨#[]⟩ : ByteArray)]) ?_ 2 _ rfl; (with_reducible repeat (first | refine blk_drewN ?_ _ | refine blk_drew ?_ | refine blk_alloc ?_ _)); refine blk_put (cs := #[.string (⟨#[]⟩ : ByteArray), .int .i64 0, .int .i64 0, .string (⟨#[]⟩ : ByteArray)]) ?_ 1 _ rfl; (with_reducible repeat (first | refine blk_drewN ?_ _ | refine blk_drew ?_ | refine blk_alloc ?_ _)); refine blk_put (cs := #[.string (⟨#[]⟩ : ByteArray), .int .i64 0, .int .i64 0, .string (⟨#[]⟩ : ByteArray)]) ?_ 0 _ rfl; (with_reducible repeat (first | refine blk_drewN ?_ _ | refine blk_drew ?_ | refine blk_alloc ?_ _)); exact BK155.out) Tryz.underlying43 rfl (by kernel_rfl)) rfl ?_
              exact ⟨by first | rfl | (simp [errW_none, errW_some] <;> rfl) | (simp [*, errW_none, errW_some] <;> rfl) | (simp [q_ne_nil]; done), by repeat (first | (with_reducible first | exact HB.out | apply below_alloc | apply pw_below_drewN | apply below_drew1 | refine below_set ?_ GE155.out) | exact HB.out)⟩
            · replace c11 := Bool.eq_false_iff.mpr c11
              subst c11
              have H1 : (if t156 = (x0_3.size : Int) then (glacisref05_number.j2 kj8 x0_3 x5_3 t156 true) else (if 0 ≤ t156 then (if t156 < (x0_3.size : Int) then (glacisref05_number.j2 kj8 x0_3 x5_3 t156 ((bt x0_3 t156) != 46)) else (none)) else (none))) = some (r1, r2, r3, r4, r5, r6) := by rw [if_neg (show ¬ (false = true) by decide)] at H; exact H
              clear H
              have H := H1
              clear H1
              have HC13 := Aside0.mk H
              clear H
              go_upto_region 8 with (fail)
              go_cut [33] (fun v33 wc => ∃ (kq : Nat) (x33_12 : Bool), v33 = .bool x33_12 ∧ Aside0 (glacisref05_number.j2 kq x0_3 x5_3 t156 x33_12 = some (r1, r2, r3, r4, r5, r6)) ∧ Aside0 (kq ≤ kj8) ∧ Aside0 (wc.heap[gb155]? = some (.cells #[.string (⟨#[]⟩ : ByteArray), .int .i64 0, .int .i64 0, .string (⟨#[]⟩ : ByteArray)] 43 (0, 0))) ∧ Aside0 (Below w.heap.size w wc))
              case first =>
                have H := HC13.out
                clear HC13
                by_cases c14 : t156 = (x0_3.size : Int)
                · rw [if_pos c14] at H
                  have c14b0 : (t156 == (x0_3.size : Int)) = true := beq_iff_eq.mpr c14
                  have c14b1 : (t156 != (x0_3.size : Int)) = false := bne_eq_false_iff_eq.mpr c14
                  clear c14
                  (first | rw [c14b0] | (simp only [i64_w, i32_w]; rw [c14b0]) | skip)
                  have H' := Aside0.mk H
                  clear H
                  go_wp2
                  go_meet
                  case rel => exact ⟨_, (true), (by first | rfl | (simp; done) | (simp [*]; done) | (simp [q_ne_nil]; done)), H', ⟨by have := HJ3.out; have := HJ8.out; first | omega | exact Nat.le_refl _⟩, ⟨by (with_reducible repeat (first | refine blk_drewN ?_ _ | refine blk_drew ?_ | refine blk_alloc ?_ _)); exact BK155.out⟩, ⟨by repeat (first | (with_reducible first | exact HB.out | apply below_alloc | apply pw_below_drewN | apply below_drew1 | refine below_set ?_ GE155.out) | exact HB.out)⟩⟩
                · rw [if_neg c14] at H
                  have c14b0 : (t156 == (x0_3.size : Int)) = false := beq_eq_false_iff_ne.mpr c14
                  have c14b1 : (t156 != (x0_3.size : Int)) = true := bne_iff_ne.mpr c14
                  (first | rw [c14b0] | (simp only [i64_w, i32_w]; rw [c14b0]) | skip)
                  by_cases c15 : 0 ≤ t156
                  · rw [if_pos c15] at H
                    have c15b0 : decide (0 ≤ t156) = true := decide_eq_true c15
                    clear c15
                    by_cases c16 : t156 < (x0_3.size : Int)
                    · rw [if_pos c16] at H
                      have c16b0 : decide (t156 < (x0_3.size : Int)) = true := decide_eq_true c16
                      clear c16
                      have H' := Aside0.mk H
                      clear H
                      have p17 : 0 ≤ (t156 : Int) := of_decide_eq_true (by first | (with_reducible assumption) | assumption)
                      have q17 : t156 < (x0_3.size : Int) := of_decide_eq_true (by first | (with_reducible assumption) | assumption)
                      have hx17 := bt_at x0_3 t156
                      replace p17 := eq_true p17
                      replace q17 := eq_true q17
                      go_wp2
                      go_meet
                      case rel => exact ⟨_, (((bt x0_3 t156) != 46)), (by first | rfl | (simp; done) | (simp [*]; done) | (simp [q_ne_nil]; done)), H', ⟨by have := HJ3.out; have := HJ8.out; first | omega | exact Nat.le_refl _⟩, ⟨by (with_reducible repeat (first | refine blk_drewN ?_ _ | refine blk_drew ?_ | refine blk_alloc ?_ _)); exact BK155.out⟩, ⟨by repeat (first | (with_reducible first | exact HB.out | apply below_alloc | apply pw_below_drewN | apply below_drew1 | refine below_set ?_ GE155.out) | exact HB.out)⟩⟩
                    · rw [if_neg c16] at H
                      exact absurd H (by simp)
                  · rw [if_neg c15] at H
                    exact absurd H (by simp)
              case rest =>
                clear HC13
                try clear c1
                try clear p1
                try clear q1
                try clear hx1
                try clear c2
                try clear c2b0
                try clear c2b1
                try clear p2
                try clear p3
                try clear q3
                try clear hx3
                try clear qi3
                try clear c6
                try clear c6b0
                try clear c6b1
                try clear c7
                try clear c7b0
                try clear c7b1
                try clear c10
                try clear c10b0
                try clear c10b1
                try clear c11
                try clear c14
                try clear c14b0
                try clear c14b1
                try clear c15
                try clear c15b0
                try clear c16
                try clear c16b0
                try clear p17
                try clear q17
                try clear hx17
                try clear hcz12_0
                try clear hcz12_1
                try clear hcz12_2
                try clear hcz12_3
                try clear hfz12_0
                try clear hfz12_1
                try clear hfz12_2
                try clear hfz12_3
                try clear p17
                try clear p2
                try clear p3
                try clear q17
                try clear q3
                obtain ⟨kq, x33_12, rfl, HA, HJ12, BK155, HB⟩ := hcut
                cases kq with
                | zero => exact absurd HA.out (by simp [glacisref05_number.j2])
                | succ kj12 =>
                  have H := HA.out
                  clear HA
                  simp only [glacisref05_number.j2] at H
                  by_cases c18 : x33_12 = true
                  · subst c18
                    have H1 : (if 0 ≤ t156 then (if t156 ≤ (x0_3.size : Int) then ((glacisref05_told.f kj12 (x0_3.extract 0 (t156 : Int).toNat)).bind fun t157 => (some ((⟨#[]⟩ : ByteArray), 1, wrap64 (x5_3 * t157), (⟨#[]⟩ : ByteArray), x0_3.extract (t156 : Int).toNat x0_3.size, true))) else (none)) else (none)) = some (r1, r2, r3, r4, r5, r6) := by rw [if_pos rfl] at H; exact H
                    clear H
                    have H := H1
                    clear H1
                    by_cases c19 : 0 ≤ t156
                    · rw [if_pos c19] at H
                      have c19b0 := eq_true c19
                      have c19b1 : decide (0 ≤ t156) = true := decide_eq_true c19
                      clear c19
                      by_cases c20 : t156 ≤ (x0_3.size : Int)
                      · rw [if_pos c20] at H
                        have c20b0 := eq_true c20
                        have c20b1 : decide (t156 ≤ (x0_3.size : Int)) = true := decide_eq_true c20
                        clear c20
                        replace H := Option.bind_eq_some_iff.mp H
                        obtain ⟨t157, A210, H⟩ := H
                        replace H : (some ((⟨#[]⟩ : ByteArray), 1, wrap64 (x5_3 * t157), (⟨#[]⟩ : ByteArray), x0_3.extract (t156 : Int).toNat x0_3.size, true)) = some (r1, r2, r3, r4, r5, r6) := H
                        have A21 := Aside0.mk A210
                        clear A210
                        have c22b0 := eq_true (of_decide_eq_true (by first | (with_reducible assumption) | assumption) : 0 ≤ t156)
                        have c23b0 := eq_true (of_decide_eq_true (by first | (with_reducible assumption) | assumption) : t156 ≤ (x0_3.size : Int))
                        simp only [Option.some.injEq, Prod.mk.injEq] at H
                        obtain ⟨rfl, rfl, rfl, rfl, rfl, rfl⟩ := H
                        try go_wp2
                        have n0_ := Aside0.mk (blk_drew BK155.out)
                        have n1_ := Aside0.mk (below_drew1 HB.out)
                        clear BK155
                        clear HB
                        have BK155 := n0_
                        have HB := n1_
                        clear n0_ n1_
                        refine start_ (n := 13) (S := fun w' => True) (ds := []) #[false, false, false, false, false, false, false, false, false, false, false, false, false] (by kernel_rfl) rfl rfl trivial (fun hHeld => ?_); refine with_tabW glacisref05_number.tab9 glacisref05_number.bits9 (fun HT_ HW_ => ?_)
                        generalize wc.drew = w24 at BK155 HB hHeld ⊢
                        refine pure_ (i := 0) (N := some 34) (v := ?_) (a' := ?_) #[true, false, false, false, false, false, false, false, false, false, false, false, false] rfl rfl (any_of HT_.out (by kernel_rfl)) (fun _ _ _ h => h) (Or.inl ⟨by rfl, ?_⟩) ?_ ?_
                        rotate_left
                        · intro w'
                          go_simp
                          with_reducible rfl
                        rotate_left
                        · simp only [Act.put, List.setIfInBounds_toArray, List.set_cons_zero, List.set_cons_succ, i64_w, i32_w]
                          rfl
                        refine pure_ (i := 1) (N := some 35) (v := ?_) (a' := ?_) #[true, true, false, false, false, false, false, false, false, false, false, false, false] rfl rfl (any_of HT_.out (by kernel_rfl)) (fun _ _ _ h => h) (Or.inl ⟨by rfl, ?_⟩) ?_ ?_
                        rotate_left
                        · intro w'
                          go_simp
                          with_reducible rfl
                        rotate_left
                        · simp only [Act.put, List.setIfInBounds_toArray, List.set_cons_zero, List.set_cons_succ, i64_w, i32_w]
                          rfl
                        refine pure_ (i := 2) (N := some 36) (v := ?_) (a' := ?_) #[true, true, true, false, false, false, false, false, false, false, false, false, false] rfl rfl (any_of HT_.out (by kernel_rfl)) (fun _ _ _ h => h) (Or.inl ⟨by rfl, ?_⟩) ?_ ?_
                        rotate_left
                        · intro w'
                          go_simp
                          with_reducible rfl
                        rotate_left
                        · simp only [Act.put, List.setIfInBounds_toArray, List.set_cons_zero, List.set_cons_succ, i64_w, i32_w]
                          rfl
                        refine pure_ (i := 3) (N := some 37) (v := ?_) (a' := ?_) #[true, true, true, true, false, false, false, false, false, false, false, false, false] rfl rfl (any_of HT_.out (by kernel_rfl)) (fun _ _ _ h => h) (Or.inl ⟨by rfl, ?_⟩) ?_ ?_
                        rotate_left
                        · intro w'
                          go_simp
                          with_reducible rfl
                        rotate_left
                        · simp only [Act.put, List.setIfInBounds_toArray, List.set_cons_zero, List.set_cons_succ, i64_w, i32_w]
                          rfl
                        refine pure_ (i := 7) (N := some 41) (v := ?_) (a' := ?_) #[true, true, true, true, false, false, false, true, false, false, false, false, false] rfl rfl (any_of HT_.out (by kernel_rfl)) (fun _ _ _ h => h) (Or.inl ⟨by rfl, ?_⟩) ?_ ?_
                        rotate_left
                        · intro w'
                          go_simp
                          with_reducible rfl
                        rotate_left
                        · simp only [Act.put, List.setIfInBounds_toArray, List.set_cons_zero, List.set_cons_succ, i64_w, i32_w]
                          rfl
                        refine pure_ (i := 8) (N := some 42) (v := ?_) (a' := ?_) #[true, true, true, true, false, false, false, true, true, false, false, false, false] rfl rfl (any_of HT_.out (by kernel_rfl)) (fun _ _ _ h => h) (Or.inl ⟨by rfl, ?_⟩) ?_ ?_
                        rotate_left
                        · intro w'
                          go_simp
                          with_reducible rfl
                        rotate_left
                        · simp only [Act.put, List.setIfInBounds_toArray, List.set_cons_zero, List.set_cons_succ, i64_w, i32_w]
                          rfl
                        refine pure_ (i := 9) (N := some 43) (v := ?_) (a' := ?_) #[true, true, true, true, false, false, false, true, true, true, false, false, false] rfl rfl (any_of HT_.out (by kernel_rfl)) (fun _ _ _ h => h) (Or.inl ⟨by rfl, ?_⟩) ?_ ?_
                        rotate_left
                        · intro w'
                          go_simp
                          with_reducible rfl
                        rotate_left
                        · simp only [Act.put, List.setIfInBounds_toArray, List.set_cons_zero, List.set_cons_succ, i64_w, i32_w]
                          rfl
                        refine one_ (i := 4) (N := some 38) #[true, true, true, true, true, false, false, true, true, true, false, false, false] rfl rfl (one_of HT_.out (by kernel_rfl)) (by decide) (fun K hK => ?_)
                        refine goes_ Tryz.func77 (by kernel_rfl) rfl #[.string (x0_3.extract 0 (t156 : Int).toNat)] (by rfl) rfl rfl (by (try simp only [List.map_toArray, List.map_cons, List.map_nil]); first | done | rfl | (simp only [List.length_drop, List.length_take]; rfl)) ?_
                        with_reducible refine (glacisref05_told.calls kj12 (x0_3.extract 0 (t156 : Int).toNat) t157 _ A21.out).mono ?_
                        rintro e w' ⟨rfl, ⟨nd, rfl⟩⟩
                        refine ⟨_, rfl, ?_⟩
                        refine hK.out _ _ trivial (fun hHeld => ?_)
                        clear hK K
                        refine norm_ (a' := ?_) ?_ ?_
                        rotate_left
                        · show Act.put _ (some 38) _ = _
                          simp only [Act.put, List.setIfInBounds_toArray, List.set_cons_zero, List.set_cons_succ, i64_w, i32_w]
                          rfl
                        refine pure_ (i := 5) (N := some 39) (v := ?_) (a' := ?_) #[true, true, true, true, true, true, false, true, true, true, false, false, false] rfl rfl (any_of HT_.out (by kernel_rfl)) (fun _ _ _ h => h) (Or.inl ⟨by rfl, ?_⟩) ?_ ?_
                        rotate_left
                        · intro w'
                          go_simp
                          with_reducible rfl
                        rotate_left
                        · simp only [Act.put, List.setIfInBounds_toArray, List.set_cons_zero, List.set_cons_succ, i64_w, i32_w]
                          rfl
                        refine pure_ (i := 6) (N := some 40) (v := ?_) (a' := ?_) #[true, true, true, true, true, true, true, true, true, true, false, false, false] rfl rfl (any_of HT_.out (by kernel_rfl)) (fun _ _ _ h => h) (Or.inl ⟨by rfl, ?_⟩) ?_ ?_
                        rotate_left
                        · intro w'
                          go_simp
                          with_reducible rfl
                        rotate_left
                        · simp only [Act.put, List.setIfInBounds_toArray, List.set_cons_zero, List.set_cons_succ, i64_w, i32_w]
                          rfl
                        refine one_ (i := 10) (N := none) #[true, true, true, true, true, true, true, true, true, true, true, false, false] rfl rfl (one_of HT_.out (by kernel_rfl)) (by decide) (fun K hK => ?_)
                        have hs25 : w24.cell? ⟨gb155, 0, none⟩ = some (.string (⟨#[]⟩ : ByteArray)) := (blk_cell BK155.out 0).trans rfl
                        have hfs25 := blk_frozen BK155.out 0
                        have hs26 : w24.cell? ⟨gb155, 1, none⟩ = some (.int .i64 0) := (blk_cell BK155.out 1).trans rfl
                        have hfs26 := blk_frozen BK155.out 1
                        have hs27 : w24.cell? ⟨gb155, 2, none⟩ = some (.int .i64 0) := (blk_cell BK155.out 2).trans rfl
                        have hfs27 := blk_frozen BK155.out 2
                        have hs28 : w24.cell? ⟨gb155, 3, none⟩ = some (.string (⟨#[]⟩ : ByteArray)) := (blk_cell BK155.out 3).trans rfl
                        have hfs28 := blk_frozen BK155.out 3
                        refine skip_ (w1 := ?_) (by rfl) rfl ?_ ?_
                        rotate_left
                        · go_simp
                          rfl
                        refine hK.out _ _ trivial (fun hHeld => ?_)
                        clear hK K
                        refine pure_ (i := 11) (N := some 3) (v := ?_) (a' := ?_) #[true, true, true, true, true, true, true, true, true, true, true, true, false] rfl rfl (any_of HT_.out (by kernel_rfl)) (fun _ _ _ h => h) (Or.inl ⟨by rfl, ?_⟩) ?_ ?_
                        rotate_left
                        · intro w'
                          go_simp
                          with_reducible rfl
                        rotate_left
                        · simp only [Act.put, List.setIfInBounds_toArray, List.set_cons_zero, List.set_cons_succ, i64_w, i32_w]
                          rfl
                        refine pure_ (i := 12) (N := some 4) (v := ?_) (a' := ?_) #[true, true, true, true, true, true, true, true, true, true, true, true, true] rfl rfl (any_of HT_.out (by kernel_rfl)) (fun _ _ _ h => h) (Or.inl ⟨by rfl, ?_⟩) ?_ ?_
                        rotate_left
                        · intro w'
                          go_simp
                          with_reducible rfl
                        rotate_left
                        · simp only [Act.put, List.setIfInBounds_toArray, List.set_cons_zero, List.set_cons_succ, i64_w, i32_w]
                          rfl
                        refine done_ (done_of HT_.out (by kernel_rfl)) ?_
                        try go_wp2
                        refine bodyPost_ret (results_ctt rfl _ _ gb155 43 #[.string (⟨#[]⟩ : ByteArray), .int .i64 1, .int .i64 (wrap64 (x5_3 * t157)), .string (⟨#[]⟩ : ByteArray)] (0, 0) _ rfl (by (with_reducible repeat (first | refine blk_drewN ?_ _ | refine blk_drew ?_ | refine blk_alloc ?_ _)); refine blk_put (cs := #[.string (⟨#[]⟩ : ByteArray), .int .i64 1, .int .i64 (wrap64 (x5_3 * t157)), .string (⟨#[]⟩ : ByteArray)]) ?_ 3 _ rfl; (with_reducible repeat (first | refine blk_drewN ?_ _ | refine blk_drew ?_ | refine blk_alloc ?_ _)); refine blk_put (cs := #[.string (⟨#[]⟩ : ByteArray), .int .i64 1, .int .i64 0, .string (⟨#[]⟩ : ByteArray)]) ?_ 2 _ rfl; (with_reducible repeat (first | refine blk_drewN ?_ _ | refine blk_drew ?_ | refine blk_alloc ?_ _)); refine blk_put (cs := #[.string (⟨#[]⟩ : ByteArray), .int .i64 0, .int .i64 0, .string (⟨#[]⟩ : ByteArray)]) ?_ 1 _ rfl; (with_reducible repeat (first | refine blk_drewN ?_ _ | refine blk_drew ?_ | refine blk_alloc ?_ _)); refine blk_put (cs := #[.string (⟨#[]⟩ : ByteArray), .int .i64 0, .int .i64 0, .string (⟨#[]⟩ : ByteArray)]) ?_ 0 _ rfl; (with_reducible repeat (first | refine blk_drewN ?_ _ | refine blk_drew ?_ | refine blk_alloc ?_ _)); exact BK155.out) Tryz.underlying43 rfl (by kernel_rfl)) rfl ?_
                        exact ⟨by first | rfl | (simp [errW_none, errW_some] <;> rfl) | (simp [*, errW_none, errW_some] <;> rfl) | (simp [q_ne_nil]; done), by repeat (first | (with_reducible first | exact HB.out | apply below_alloc | apply pw_below_drewN | apply below_drew1 | refine below_set ?_ GE155.out) | exact HB.out)⟩
                      · rw [if_neg c20] at H
                        exact absurd H (by simp)
                    · rw [if_neg c19] at H
                      exact absurd H (by simp)
                  · replace c18 := Bool.eq_false_iff.mpr c18
                    subst c18
                    have H1 : (if 0 ≤ (wrap64 (t156 + 1)) then (if (wrap64 (t156 + 1)) ≤ (x0_3.size : Int) then ((glacisref05_digits.f kj12 (x0_3.extract ((wrap64 (t156 + 1)) : Int).toNat x0_3.size)).bind fun t158 => (if t156 > 12 then (glacisref05_number.j3 kj12 x0_3 x5_3 t156 t158 true) else (if t158 < 1 then (glacisref05_number.j3 kj12 x0_3 x5_3 t156 t158 true) else (glacisref05_number.j3 kj12 x0_3 x5_3 t156 t158 (decide (t158 > 3)))))) else (none)) else (none)) = some (r1, r2, r3, r4, r5, r6) := by rw [if_neg (show ¬ (false = true) by decide)] at H; exact H
                    clear H
                    have H := H1
                    clear H1
                    obtain ⟨ji29, hji29⟩ : ∃ j_ : Int, (wrap64 (t156 + 1)) = j_ := ⟨_, rfl⟩
                    replace H : (if 0 ≤ (ji29) then (if (ji29) ≤ (x0_3.size : Int) then ((glacisref05_digits.f kj12 (x0_3.extract ((ji29) : Int).toNat x0_3.size)).bind fun t158 => (if t156 > 12 then (glacisref05_number.j3 kj12 x0_3 x5_3 t156 t158 true) else (if t158 < 1 then (glacisref05_number.j3 kj12 x0_3 x5_3 t156 t158 true) else (glacisref05_number.j3 kj12 x0_3 x5_3 t156 t158 (decide (t158 > 3)))))) else (none)) else (none)) = some (r1, r2, r3, r4, r5, r6) := by first | (rw [hji29] at H; exact H) | (simp only [hji29] at H ⊢; exact H)
                    have hji29w : (IntKind.i64.wrap (t156 + 1)) = ji29 := (i64_w _).trans hji29
                    by_cases c30 : 0 ≤ (ji29)
                    · rw [if_pos c30] at H
                      have c30b0 := eq_true c30
                      have c30b1 : decide (0 ≤ (ji29)) = true := decide_eq_true c30
                      clear c30
                      by_cases c31 : (ji29) ≤ (x0_3.size : Int)
                      · rw [if_pos c31] at H
                        have c31b0 := eq_true c31
                        have c31b1 : decide ((ji29) ≤ (x0_3.size : Int)) = true := decide_eq_true c31
                        clear c31
                        replace H := Option.bind_eq_some_iff.mp H
                        obtain ⟨t158, A320, H⟩ := H
                        replace H : (if t156 > 12 then (glacisref05_number.j3 kj12 x0_3 x5_3 t156 t158 true) else (if t158 < 1 then (glacisref05_number.j3 kj12 x0_3 x5_3 t156 t158 true) else (glacisref05_number.j3 kj12 x0_3 x5_3 t156 t158 (decide (t158 > 3))))) = some (r1, r2, r3, r4, r5, r6) := H
                        have A32 := Aside0.mk A320
                        clear A320
                        have HC33 := Aside0.mk H
                        clear H
                        go_upto_region 11 with (first | ((with_reducible refine gate_callee (f := 76) rfl ?_); refine goesL_ (some 48) rfl rfl Tryz.func76 (by kernel_rfl) rfl #[.string (x0_3.extract ((ji29) : Int).toNat x0_3.size)] rfl (by (try simp only [List.map_toArray, List.map_cons, List.map_nil]); first | done | (simp only [hji29]; rfl) | rfl | (simp only [List.length_drop, List.length_take]; rfl)) ?_; (with_reducible refine (glacisref05_digits.calls kj12 (x0_3.extract ((ji29) : Int).toNat x0_3.size) t158 _ A32.out).mono ?_); rintro e w' ⟨rfl, ⟨nd, rfl⟩⟩; refine ⟨_, rfl, ?_⟩))
                        (try simp only [Act.put, List.setIfInBounds_toArray, List.set_cons_zero, List.set_cons_succ])
                        go_cut [58] (fun v58 wc => ∃ (kq : Nat) (x58_32 : Bool), v58 = .bool x58_32 ∧ Aside0 (glacisref05_number.j3 kq x0_3 x5_3 t156 t158 x58_32 = some (r1, r2, r3, r4, r5, r6)) ∧ Aside0 (kq ≤ kj12) ∧ Aside0 (wc.heap[gb155]? = some (.cells #[.string (⟨#[]⟩ : ByteArray), .int .i64 0, .int .i64 0, .string (⟨#[]⟩ : ByteArray)] 43 (0, 0))) ∧ Aside0 (Below w.heap.size w wc))
                        case first =>
                          have H := HC33.out
                          clear HC33
                          by_cases c34 : t156 > 12
                          · rw [if_pos c34] at H
                            have c34b0 : decide (12 < t156) = true := decide_eq_true c34
                            clear c34
                            (first | rw [c34b0] | (simp only [i64_w, i32_w]; rw [c34b0]) | skip)
                            have H' := Aside0.mk H
                            clear H
                            go_wp2
                            go_meet
                            case rel => exact ⟨_, (true), (by first | rfl | (simp; done) | (simp [*]; done) | (simp [q_ne_nil]; done)), H', ⟨by have := HJ3.out; have := HJ8.out; have := HJ12.out; first | omega | exact Nat.le_refl _⟩, ⟨by (with_reducible repeat (first | refine blk_drewN ?_ _ | refine blk_drew ?_ | refine blk_alloc ?_ _)); exact BK155.out⟩, ⟨by repeat (first | (with_reducible first | exact HB.out | apply below_alloc | apply pw_below_drewN | apply below_drew1 | refine below_set ?_ GE155.out) | exact HB.out)⟩⟩
                          · rw [if_neg c34] at H
                            have c34b0 : decide (12 < t156) = false := decide_eq_false c34
                            clear c34
                            (first | rw [c34b0] | (simp only [i64_w, i32_w]; rw [c34b0]) | skip)
                            by_cases c35 : t158 < 1
                            · rw [if_pos c35] at H
                              have c35b0 : decide (t158 < 1) = true := decide_eq_true c35
                              clear c35
                              have H' := Aside0.mk H
                              clear H
                              go_wp2
                              go_meet
                              case rel => exact ⟨_, (true), (by first | rfl | (simp; done) | (simp [*]; done) | (simp [q_ne_nil]; done)), H', ⟨by have := HJ3.out; have := HJ8.out; have := HJ12.out; first | omega | exact Nat.le_refl _⟩, ⟨by (with_reducible repeat (first | refine blk_drewN ?_ _ | refine blk_drew ?_ | refine blk_alloc ?_ _)); exact BK155.out⟩, ⟨by repeat (first | (with_reducible first | exact HB.out | apply below_alloc | apply pw_below_drewN | apply below_drew1 | refine below_set ?_ GE155.out) | exact HB.out)⟩⟩
                            · rw [if_neg c35] at H
                              have c35b0 : decide (t158 < 1) = false := decide_eq_false c35
                              clear c35
                              have H' := Aside0.mk H
                              clear H
                              go_wp2
                              go_meet
                              case rel => exact ⟨_, (decide (t158 > 3)), (by first | rfl | (simp; done) | (simp [*]; done) | (simp [q_ne_nil]; done)), H', ⟨by have := HJ3.out; have := HJ8.out; have := HJ12.out; first | omega | exact Nat.le_refl _⟩, ⟨by (with_reducible repeat (first | refine blk_drewN ?_ _ | refine blk_drew ?_ | refine blk_alloc ?_ _)); exact BK155.out⟩, ⟨by repeat (first | (with_reducible first | exact HB.out | apply below_alloc | apply pw_below_drewN | apply below_drew1 | refine below_set ?_ GE155.out) | exact HB.out)⟩⟩
                        case rest =>
                          clear HC33
                          try clear c1
                          try clear p1
                          try clear q1
                          try clear hx1
                          try clear c2
                          try clear c2b0
                          try clear c2b1
                          try clear p2
                          try clear c3
                          try clear p3
                          try clear q3
                          try clear hx3
                          try clear qi3
                          try clear c6
                          try clear c6b0
                          try clear c6b1
                          try clear p6
                          try clear c7
                          try clear c7b0
                          try clear c7b1
                          try clear c10
                          try clear c10b0
                          try clear c10b1
                          try clear c11
                          try clear c14
                          try clear c14b0
                          try clear c14b1
                          try clear c15
                          try clear c15b0
                          try clear c16
                          try clear c16b0
                          try clear p17
                          try clear q17
                          try clear hx17
                          try clear c18
                          try clear c19
                          try clear c19b0
                          try clear c19b1
                          try clear c20
                          try clear c20b0
                          try clear c20b1
                          try clear c22
                          try clear c22b0
                          try clear c23
                          try clear c23b0
                          try clear c30
                          try clear c30b0
                          try clear c30b1
                          try clear c31
                          try clear c31b0
                          try clear c31b1
                          try clear c34
                          try clear c34b0
                          try clear c35
                          try clear c35b0
                          try clear hcz12_0
                          try clear hcz12_1
                          try clear hcz12_2
                          try clear hcz12_3
                          try clear hfz12_0
                          try clear hfz12_1
                          try clear hfz12_2
                          try clear hfz12_3
                          try clear p1
                          try clear p17
                          try clear p2
                          try clear p3
                          try clear q1
                          try clear q17
                          try clear q3
                          obtain ⟨kq, x58_32, rfl, HA, HJ32, BK155, HB⟩ := hcut
                          cases kq with
                          | zero => exact absurd HA.out (by simp [glacisref05_number.j3])
                          | succ kj32 =>
                            have H := HA.out
                            clear HA
                            simp only [glacisref05_number.j3] at H
                            by_cases c36 : x58_32 = true
                            · subst c36
                              have H1 : (some ((⟨#[]⟩ : ByteArray), 0, 0, (⟨#[]⟩ : ByteArray), (⟨#[]⟩ : ByteArray), false)) = some (r1, r2, r3, r4, r5, r6) := by rw [if_pos rfl] at H; exact H
                              clear H
                              have H := H1
                              clear H1
                              simp only [Option.some.injEq, Prod.mk.injEq] at H
                              obtain ⟨rfl, rfl, rfl, rfl, rfl, rfl⟩ := H
                              have hcz37_0 : wc.cell? ⟨gb155, 0, none⟩ = some (.string (⟨#[]⟩ : ByteArray)) := (blk_cell BK155.out 0).trans rfl
                              have hcz37_1 : wc.cell? ⟨gb155, 1, none⟩ = some (.int .i64 0) := (blk_cell BK155.out 1).trans rfl
                              have hcz37_2 : wc.cell? ⟨gb155, 2, none⟩ = some (.int .i64 0) := (blk_cell BK155.out 2).trans rfl
                              have hcz37_3 : wc.cell? ⟨gb155, 3, none⟩ = some (.string (⟨#[]⟩ : ByteArray)) := (blk_cell BK155.out 3).trans rfl
                              have hfz37_0 := blk_frozen BK155.out 0
                              have hfz37_1 := blk_frozen BK155.out 1
                              have hfz37_2 := blk_frozen BK155.out 2
                              have hfz37_3 := blk_frozen BK155.out 3
                              go_wp2
                              refine bodyPost_ret (results_ctt rfl _ _ gb155 43 #[.string (⟨#[]⟩ : ByteArray), .int .i64 0, .int .i64 0, .string (⟨#[]⟩ : ByteArray)] (0, 0) _ rfl (by (with_reducible repeat (first | refine blk_drewN ?_ _ | refine blk_drew ?_ | refine blk_alloc ?_ _)); refine blk_put (cs := #[.string (⟨#[]⟩ : ByteArray), .int .i64 0, .int .i64 0, .string (⟨#[]⟩ : ByteArray)]) ?_ 3 _ rfl; (with_reducible repeat (first | refine blk_drewN ?_ _ | refine blk_drew ?_ | refine blk_alloc ?_ _)); refine blk_put (cs := #[.string (⟨#[]⟩ : ByteArray), .int .i64 0, .int .i64 0, .string (⟨#[]⟩ : ByteArray)]) ?_ 2 _ rfl; (with_reducible repeat (first | refine blk_drewN ?_ _ | refine blk_drew ?_ | refine blk_alloc ?_ _)); refine blk_put (cs := #[.string (⟨#[]⟩ : ByteArray), .int .i64 0, .int .i64 0, .string (⟨#[]⟩ : ByteArray)]) ?_ 1 _ rfl; (with_reducible repeat (first | refine blk_drewN ?_ _ | refine blk_drew ?_ | refine blk_alloc ?_ _)); refine blk_put (cs := #[.string (⟨#[]⟩ : ByteArray), .int .i64 0, .int .i64 0, .string (⟨#[]⟩ : ByteArray)]) ?_ 0 _ rfl; (with_reducible repeat (first | refine blk_drewN ?_ _ | refine blk_drew ?_ | refine blk_alloc ?_ _)); exact BK155.out) Tryz.underlying43 rfl (by kernel_rfl)) rfl ?_
                              exact ⟨by first | rfl | (simp [errW_none, errW_some] <;> rfl) | (simp only [← hji29]; first | rfl | (simp [errW_none, errW_some] <;> rfl)) | (simp [*, errW_none, errW_some] <;> rfl) | (simp [q_ne_nil]; done), by repeat (first | (with_reducible first | exact HB.out | apply below_alloc | apply pw_below_drewN | apply below_drew1 | refine below_set ?_ GE155.out) | exact HB.out)⟩
                            · replace c36 := Bool.eq_false_iff.mpr c36
                              subst c36
                              have H1 : (if 0 ≤ t156 then (if t156 ≤ (x0_3.size : Int) then (if 0 ≤ (wrap64 (t156 + 1)) then (if (wrap64 (t156 + 1)) ≤ (wrap64 ((wrap64 (t156 + 1)) + t158)) then (if (wrap64 ((wrap64 (t156 + 1)) + t158)) ≤ (x0_3.size : Int) then (if (x0_3.extract 0 (t156 : Int).toNat).size + (x0_3.extract ((wrap64 (t156 + 1)) : Int).toNat ((wrap64 ((wrap64 (t156 + 1)) + t158)) : Int).toNat).size ≤ 9223372036854775807 then ((glacisref05_told.f kj32 ((x0_3.extract 0 (t156 : Int).toNat) ++ (x0_3.extract ((wrap64 (t156 + 1)) : Int).toNat ((wrap64 ((wrap64 (t156 + 1)) + t158)) : Int).toNat))).bind fun t159 => (glacisref05_number.l0 kj32 x0_3 x5_3 t156 t158 t159 t158)) else (none)) else (none)) else (none)) else (none)) else (none)) else (none)) = some (r1, r2, r3, r4, r5, r6) := by rw [if_neg (show ¬ (false = true) by decide)] at H; exact H
                              clear H
                              have H := H1
                              clear H1
                              by_cases c38 : 0 ≤ t156
                              · rw [if_pos c38] at H
                                have c38b0 := eq_true c38
                                have c38b1 : decide (0 ≤ t156) = true := decide_eq_true c38
                                clear c38
                                by_cases c39 : t156 ≤ (x0_3.size : Int)
                                · rw [if_pos c39] at H
                                  have c39b0 := eq_true c39
                                  have c39b1 : decide (t156 ≤ (x0_3.size : Int)) = true := decide_eq_true c39
                                  clear c39
                                  replace H : (if 0 ≤ (ji29) then (if (ji29) ≤ (wrap64 ((ji29) + t158)) then (if (wrap64 ((ji29) + t158)) ≤ (x0_3.size : Int) then (if (x0_3.extract 0 (t156 : Int).toNat).size + (x0_3.extract ((ji29) : Int).toNat ((wrap64 ((ji29) + t158)) : Int).toNat).size ≤ 9223372036854775807 then ((glacisref05_told.f kj32 ((x0_3.extract 0 (t156 : Int).toNat) ++ (x0_3.extract ((ji29) : Int).toNat ((wrap64 ((ji29) + t158)) : Int).toNat))).bind fun t159 => (glacisref05_number.l0 kj32 x0_3 x5_3 t156 t158 t159 t158)) else (none)) else (none)) else (none)) else (none)) = some (r1, r2, r3, r4, r5, r6) := by first | (rw [hji29] at H; exact H) | (simp only [hji29] at H ⊢; exact H)
                                  by_cases c41 : 0 ≤ (ji29)
                                  · rw [if_pos c41] at H
                                    have c41b0 := eq_true c41
                                    have c41b1 : decide (0 ≤ (ji29)) = true := decide_eq_true c41
                                    clear c41
                                    by_cases c42 : (ji29) ≤ (wrap64 ((ji29) + t158))
                                    · rw [if_pos c42] at H
                                      have c42b0 := eq_true c42
                                      have c42b1 : decide ((ji29) ≤ (wrap64 ((ji29) + t158))) = true := decide_eq_true c42
                                      by_cases c43 : (wrap64 ((ji29) + t158)) ≤ (x0_3.size : Int)
                                      · rw [if_pos c43] at H
                                        have c43b0 := eq_true c43
                                        have c43b1 : decide ((wrap64 ((ji29) + t158)) ≤ (x0_3.size : Int)) = true := decide_eq_true c43
                                        by_cases c44 : (x0_3.extract 0 (t156 : Int).toNat).size + (x0_3.extract ((ji29) : Int).toNat ((wrap64 ((ji29) + t158)) : Int).toNat).size ≤ 9223372036854775807
                                        · rw [if_pos c44] at H
                                          have c44b0 := eq_true c44
                                          have c44b1 : decide ((x0_3.extract 0 (t156 : Int).toNat).size + (x0_3.extract ((ji29) : Int).toNat ((wrap64 ((ji29) + t158)) : Int).toNat).size ≤ 9223372036854775807) = true := decide_eq_true c44
                                          have c44e : (9223372036854775807 < (t156 : Int).toNat + ((wrap64 ((ji29) + t158)).toNat - (ji29 : Int).toNat)) = False := eq_false (by have h_ := c44; have g_ := of_eq_true c39b0; rw [ByteArray.size_extract, ByteArray.size_extract] at h_; omega)
                                          try have c44b2 : (9223372036854775807 < (x0_3.extract 0 (t156 : Int).toNat).size + (x0_3.extract ((ji29) : Int).toNat ((wrap64 ((ji29) + t158)) : Int).toNat).size) = False := eq_false (Nat.not_lt.2 c44)
                                          replace H := Option.bind_eq_some_iff.mp H
                                          obtain ⟨t159, A450, H⟩ := H
                                          replace H : (glacisref05_number.l0 kj32 x0_3 x5_3 t156 t158 t159 t158) = some (r1, r2, r3, r4, r5, r6) := H
                                          have A45 := Aside0.mk A450
                                          clear A450
                                          have H' := Aside0.mk H
                                          clear H
                                          try go_wp2
                                          have n0_ := Aside0.mk (blk_drew BK155.out)
                                          have n1_ := Aside0.mk (below_drew1 HB.out)
                                          clear BK155
                                          clear HB
                                          have BK155 := n0_
                                          have HB := n1_
                                          clear n0_ n1_
                                          refine start_ (n := 14) (S := fun w' => True) (ds := []) #[false, false, false, false, false, false, false, false, false, false, false, false, false, false] (by kernel_rfl) rfl rfl trivial (fun hHeld => ?_); refine with_tabW glacisref05_number.tab13 glacisref05_number.bits13 (fun HT_ HW_ => ?_)
                                          generalize wc.drew = w46 at BK155 HB hHeld ⊢
                                          refine pure_ (i := 0) (N := some 60) (v := ?_) (a' := ?_) #[true, false, false, false, false, false, false, false, false, false, false, false, false, false] rfl rfl (any_of HT_.out (by kernel_rfl)) (fun _ _ _ h => h) (Or.inl ⟨by rfl, ?_⟩) ?_ ?_
                                          rotate_left
                                          · intro w'
                                            go_simp
                                            with_reducible rfl
                                          rotate_left
                                          · simp only [Act.put, List.setIfInBounds_toArray, List.set_cons_zero, List.set_cons_succ, i64_w, i32_w]
                                            rfl
                                          refine pure_ (i := 1) (N := some 61) (v := ?_) (a' := ?_) #[true, true, false, false, false, false, false, false, false, false, false, false, false, false] rfl rfl (any_of HT_.out (by kernel_rfl)) (fun _ _ _ h => h) (Or.inl ⟨by rfl, ?_⟩) ?_ ?_
                                          rotate_left
                                          · intro w'
                                            go_simp
                                            with_reducible rfl
                                          rotate_left
                                          · simp only [Act.put, List.setIfInBounds_toArray, List.set_cons_zero, List.set_cons_succ, i64_w, i32_w]
                                            rfl
                                          refine pure_ (i := 2) (N := some 62) (v := ?_) (a' := ?_) #[true, true, true, false, false, false, false, false, false, false, false, false, false, false] rfl rfl (any_of HT_.out (by kernel_rfl)) (fun _ _ _ h => h) (Or.inl ⟨by rfl, ?_⟩) ?_ ?_
                                          rotate_left
                                          · intro w'
                                            go_simp
                                            with_reducible rfl
                                          rotate_left
                                          · simp only [Act.put, List.setIfInBounds_toArray, List.set_cons_zero, List.set_cons_succ, i64_w, i32_w]
                                            rfl
                                          refine pure_ (i := 3) (N := some 63) (v := ?_) (a' := ?_) #[true, true, true, true, false, false, false, false, false, false, false, false, false, false] rfl rfl (any_of HT_.out (by kernel_rfl)) (fun _ _ _ h => h) (Or.inl ⟨by rfl, ?_⟩) ?_ ?_
                                          rotate_left
                                          · intro w'
                                            go_simp
                                            with_reducible rfl
                                          rotate_left
                                          · simp only [Act.put, List.setIfInBounds_toArray, List.set_cons_zero, List.set_cons_succ, i64_w, i32_w]
                                            rfl
                                          refine pure_ (i := 4) (N := some 64) (v := ?_) (a' := ?_) #[true, true, true, true, true, false, false, false, false, false, false, false, false, false] rfl rfl (any_of HT_.out (by kernel_rfl)) (fun _ _ _ h => h) (Or.inl ⟨by rfl, ?_⟩) ?_ ?_
                                          rotate_left
                                          · intro w'
                                            go_simp
                                            with_reducible rfl
                                          rotate_left
                                          · simp only [Act.put, List.setIfInBounds_toArray, List.set_cons_zero, List.set_cons_succ, i64_w, i32_w]
                                            rfl
                                          refine pure_ (i := 5) (N := some 65) (v := ?_) (a' := ?_) #[true, true, true, true, true, true, false, false, false, false, false, false, false, false] rfl rfl (any_of HT_.out (by kernel_rfl)) (fun _ _ _ h => h) (Or.inl ⟨by rfl, ?_⟩) ?_ ?_
                                          rotate_left
                                          · intro w'
                                            go_simp
                                            with_reducible rfl
                                          rotate_left
                                          · simp only [Act.put, List.setIfInBounds_toArray, List.set_cons_zero, List.set_cons_succ, i64_w, i32_w]
                                            rfl
                                          refine pure_ (i := 6) (N := some 66) (v := ?_) (a' := ?_) #[true, true, true, true, true, true, true, false, false, false, false, false, false, false] rfl rfl (any_of HT_.out (by kernel_rfl)) (fun _ _ _ h => h) (Or.inl ⟨by rfl, ?_⟩) ?_ ?_
                                          rotate_left
                                          · intro w'
                                            go_simp
                                            with_reducible rfl
                                          rotate_left
                                          · simp only [Act.put, List.setIfInBounds_toArray, List.set_cons_zero, List.set_cons_succ, i64_w, i32_w]
                                            rfl
                                          refine pure_ (i := 7) (N := some 67) (v := ?_) (a' := ?_) #[true, true, true, true, true, true, true, true, false, false, false, false, false, false] rfl rfl (any_of HT_.out (by kernel_rfl)) (fun _ _ _ h => h) (Or.inl ⟨by rfl, ?_⟩) ?_ ?_
                                          rotate_left
                                          · intro w'
                                            go_simp
                                            with_reducible rfl
                                          rotate_left
                                          · simp only [Act.put, List.setIfInBounds_toArray, List.set_cons_zero, List.set_cons_succ, i64_w, i32_w]
                                            rfl
                                          refine pure_ (i := 8) (N := some 68) (v := ?_) (a' := ?_) #[true, true, true, true, true, true, true, true, true, false, false, false, false, false] rfl rfl (any_of HT_.out (by kernel_rfl)) (fun _ _ _ h => h) (Or.inl ⟨by rfl, ?_⟩) ?_ ?_
                                          rotate_left
                                          · intro w'
                                            go_simp
                                            with_reducible rfl
                                          rotate_left
                                          · simp only [Act.put, List.setIfInBounds_toArray, List.set_cons_zero, List.set_cons_succ, i64_w, i32_w]
                                            rfl
                                          refine pure_ (i := 9) (N := some 69) (v := ?_) (a' := ?_) #[true, true, true, true, true, true, true, true, true, true, false, false, false, false] rfl rfl (any_of HT_.out (by kernel_rfl)) (fun _ _ _ h => h) (Or.inl ⟨by rfl, ?_⟩) ?_ ?_
                                          rotate_left
                                          · intro w'
                                            go_simp
                                            with_reducible rfl
                                          rotate_left
                                          · simp only [Act.put, List.setIfInBounds_toArray, List.set_cons_zero, List.set_cons_succ, i64_w, i32_w]
                                            rfl
                                          refine pure_ (i := 10) (N := some 70) (v := ?_) (a' := ?_) #[true, true, true, true, true, true, true, true, true, true, true, false, false, false] rfl rfl (any_of HT_.out (by kernel_rfl)) (fun _ _ _ h => h) (Or.inl ⟨by rfl, ?_⟩) ?_ ?_
                                          rotate_left
                                          · intro w'
                                            go_simp
                                            with_reducible rfl
                                          rotate_left
                                          · simp only [Act.put, List.setIfInBounds_toArray, List.set_cons_zero, List.set_cons_succ, i64_w, i32_w]
                                            rfl
                                          refine pure_ (i := 11) (N := some 71) (v := ?_) (a' := ?_) #[true, true, true, true, true, true, true, true, true, true, true, true, false, false] rfl rfl (any_of HT_.out (by kernel_rfl)) (fun _ _ _ h => h) (Or.inl ⟨by rfl, ?_⟩) ?_ ?_
                                          rotate_left
                                          · intro w'
                                            go_simp
                                            with_reducible rfl
                                          rotate_left
                                          · simp only [Act.put, List.setIfInBounds_toArray, List.set_cons_zero, List.set_cons_succ, i64_w, i32_w]
                                            rfl
                                          refine one_ (i := 12) (N := some 72) #[true, true, true, true, true, true, true, true, true, true, true, true, true, false] rfl rfl (one_of HT_.out (by kernel_rfl)) (by decide) (fun K hK => ?_)
                                          refine goes_ Tryz.func77 (by kernel_rfl) rfl #[.string ((x0_3.extract 0 (t156 : Int).toNat) ++ (x0_3.extract ((ji29) : Int).toNat ((wrap64 ((ji29) + t158)) : Int).toNat))] (by rfl) rfl rfl (by (try simp only [List.map_toArray, List.map_cons, List.map_nil]); first | done | (simp only [hji29]; rfl) | rfl | (simp only [List.length_drop, List.length_take]; rfl)) ?_
                                          with_reducible refine (glacisref05_told.calls kj32 ((x0_3.extract 0 (t156 : Int).toNat) ++ (x0_3.extract ((ji29) : Int).toNat ((wrap64 ((ji29) + t158)) : Int).toNat)) t159 _ A45.out).mono ?_
                                          rintro e w' ⟨rfl, ⟨nd, rfl⟩⟩
                                          refine ⟨_, rfl, ?_⟩
                                          refine hK.out _ _ trivial (fun hHeld => ?_)
                                          clear hK K
                                          refine norm_ (a' := ?_) ?_ ?_
                                          rotate_left
                                          · show Act.put _ (some 72) _ = _
                                            simp only [Act.put, List.setIfInBounds_toArray, List.set_cons_zero, List.set_cons_succ, i64_w, i32_w]
                                            rfl
                                          refine pure_ (i := 13) (N := some 8) (v := ?_) (a' := ?_) #[true, true, true, true, true, true, true, true, true, true, true, true, true, true] rfl rfl (any_of HT_.out (by kernel_rfl)) (fun _ _ _ h => h) (Or.inl ⟨by rfl, ?_⟩) ?_ ?_
                                          rotate_left
                                          · intro w'
                                            go_simp
                                            with_reducible rfl
                                          rotate_left
                                          · simp only [Act.put, List.setIfInBounds_toArray, List.set_cons_zero, List.set_cons_succ, i64_w, i32_w]
                                            rfl
                                          refine done_ (done_of HT_.out (by kernel_rfl)) ?_
                                          try go_wp2
                                          go_loopg [8, 9] kj32 (fun kq v8 v9 w' => ∃ (x8_5 : Int) (x9_5 : Int), v8 = .int .i64 x8_5 ∧ v9 = .int .i64 x9_5 ∧ Aside0 (glacisref05_number.l0 kq x0_3 x5_3 t156 t158 x8_5 x9_5 = some (r1, r2, r3, r4, r5, r6)) ∧ Aside0 (kq ≤ kj32) ∧ Aside0 (w'.heap[gb155]? = some (.cells #[.string (⟨#[]⟩ : ByteArray), .int .i64 0, .int .i64 0, .string (⟨#[]⟩ : ByteArray)] 43 (0, 0))) ∧ Aside0 (Below w.heap.size w w'))
                                          case atStart => exact ⟨(t159), (t158), (by first | rfl | (simp; done) | (simp [*]; done) | (simp [q_ne_nil]; done)), (by first | rfl | (simp; done) | (simp [*]; done) | (simp [q_ne_nil]; done)), H', ⟨Nat.le_refl _⟩, ⟨by (with_reducible repeat (first | refine blk_drewN ?_ _ | refine blk_drew ?_ | refine blk_alloc ?_ _)); exact BK155.out⟩, ⟨by repeat (first | (with_reducible first | exact HB.out | apply below_alloc | apply pw_below_drewN | apply below_drew1 | refine below_set ?_ GE155.out) | exact HB.out)⟩⟩
                                          case round =>
                                            clear H'
                                            try clear c1
                                            try clear p1
                                            try clear q1
                                            try clear hx1
                                            try clear c2
                                            try clear c2b0
                                            try clear c2b1
                                            try clear p2
                                            try clear c3
                                            try clear p3
                                            try clear q3
                                            try clear hx3
                                            try clear qi3
                                            try clear c4
                                            try clear c6
                                            try clear c6b0
                                            try clear c6b1
                                            try clear p6
                                            try clear c7
                                            try clear c7b0
                                            try clear c7b1
                                            try clear c10
                                            try clear c10b0
                                            try clear c10b1
                                            try clear c11
                                            try clear c14
                                            try clear c14b0
                                            try clear c14b1
                                            try clear c15
                                            try clear c15b0
                                            try clear c16
                                            try clear c16b0
                                            try clear p17
                                            try clear q17
                                            try clear hx17
                                            try clear c18
                                            try clear c19
                                            try clear c19b0
                                            try clear c19b1
                                            try clear c20
                                            try clear c20b0
                                            try clear c20b1
                                            try clear c22
                                            try clear c22b0
                                            try clear c23
                                            try clear c23b0
                                            try clear c30
                                            try clear c30b0
                                            try clear c30b1
                                            try clear c31
                                            try clear c31b0
                                            try clear c31b1
                                            try clear c34
                                            try clear c34b0
                                            try clear c35
                                            try clear c35b0
                                            try clear c36
                                            try clear c38
                                            try clear c38b0
                                            try clear c38b1
                                            try clear c39
                                            try clear c39b0
                                            try clear c39b1
                                            try clear c41
                                            try clear c41b0
                                            try clear c41b1
                                            try clear c42
                                            try clear c42b0
                                            try clear c42b1
                                            try clear c43
                                            try clear c43b0
                                            try clear c43b1
                                            try clear c44
                                            try clear c44b0
                                            try clear c44b1
                                            try clear c44b2
                                            try clear hcz12_0
                                            try clear hcz12_1
                                            try clear hcz12_2
                                            try clear hcz12_3
                                            try clear hcz37_0
                                            try clear hcz37_1
                                            try clear hcz37_2
                                            try clear hcz37_3
                                            try clear hfz12_0
                                            try clear hfz12_1
                                            try clear hfz12_2
                                            try clear hfz12_3
                                            try clear hfz37_0
                                            try clear hfz37_1
                                            try clear hfz37_2
                                            try clear hfz37_3
                                            try clear p1
                                            try clear p17
                                            try clear p2
                                            try clear p3
                                            try clear p6
                                            try clear q1
                                            try clear q17
                                            try clear q3
                                            obtain ⟨x8_5, x9_5, rfl, rfl, HA, HK5, BK155, HB⟩ := hrel
                                            cases gk with
                                            | zero => exact absurd HA.out (by simp [glacisref05_number.l0])
                                            | succ k5 =>
                                              have H := HA.out
                                              clear HA
                                              simp only [glacisref05_number.l0] at H
                                              by_cases c47 : x9_5 < 3
                                              · rw [if_pos c47] at H
                                                have c47b0 : decide (x9_5 < 3) = true := decide_eq_true c47
                                                clear c47
                                                have H' := Aside0.mk H
                                                clear H
                                                go_wp2
                                                go_roundg k5
                                                case measure => have := HJ3.out; have := HJ8.out; have := HJ12.out; have := HJ32.out; have := HK5.out; omega
                                                case rel => exact ⟨(wrap64 (10 * x8_5)), (wrap64 (x9_5 + 1)), (by first | rfl | (simp; done) | (simp [*]; done) | (simp [q_ne_nil]; done)), (by first | rfl | (simp; done) | (simp [*]; done) | (simp [q_ne_nil]; done)), H', ⟨by have := HJ3.out; have := HJ8.out; have := HJ12.out; have := HJ32.out; have := HK5.out; omega⟩, ⟨by (with_reducible repeat (first | refine blk_drewN ?_ _ | refine blk_drew ?_ | refine blk_alloc ?_ _)); exact BK155.out⟩, ⟨by repeat (first | (with_reducible first | exact HB.out | apply below_alloc | apply pw_below_drewN | apply below_drew1 | refine below_set ?_ GE155.out) | exact HB.out)⟩⟩
                                              · rw [if_neg c47] at H
                                                have c47b0 : decide (x9_5 < 3) = false := decide_eq_false c47
                                                clear c47
                                                obtain ⟨ji48, hji48⟩ : ∃ j_ : Int, (wrap64 ((ji29) + t158)) = j_ := ⟨_, rfl⟩
                                                replace H : (if 0 ≤ (ji48) then (if (ji48) ≤ (x0_3.size : Int) then (some ((⟨#[]⟩ : ByteArray), 2, wrap64 (x5_3 * x8_5), (⟨#[]⟩ : ByteArray), x0_3.extract ((ji48) : Int).toNat x0_3.size, true)) else (none)) else (none)) = some (r1, r2, r3, r4, r5, r6) := by first | (rw [hji48] at H; exact H) | (simp only [hji29, hji48] at H ⊢; exact H)
                                                have hji48w : (IntKind.i64.wrap ((ji29) + t158)) = ji48 := (i64_w _).trans hji48
                                                by_cases c49 : 0 ≤ (ji48)
                                                · rw [if_pos c49] at H
                                                  have c49b0 := eq_true c49
                                                  have c49b1 : decide (0 ≤ (ji48)) = true := decide_eq_true c49
                                                  clear c49
                                                  by_cases c50 : (ji48) ≤ (x0_3.size : Int)
                                                  · rw [if_pos c50] at H
                                                    have c50b0 := eq_true c50
                                                    have c50b1 : decide ((ji48) ≤ (x0_3.size : Int)) = true := decide_eq_true c50
                                                    clear c50
                                                    simp only [Option.some.injEq, Prod.mk.injEq] at H
                                                    obtain ⟨rfl, rfl, rfl, rfl, rfl, rfl⟩ := H
                                                    try go_wp2
                                                    have n0_ := Aside0.mk (blk_drew BK155.out)
                                                    have n1_ := Aside0.mk (below_drew1 HB.out)
                                                    clear BK155
                                                    clear HB
                                                    have BK155 := n0_
                                                    have HB := n1_
                                                    clear n0_ n1_
                                                    refine start_ (n := 13) (S := fun w' => True) (ds := []) #[false, false, false, false, false, false, false, false, false, false, false, false, false] (by kernel_rfl) rfl rfl trivial (fun hHeld => ?_); refine with_tabW glacisref05_number.tab18 glacisref05_number.bits18 (fun HT_ HW_ => ?_)
                                                    generalize wr.drew = w51 at BK155 HB hHeld ⊢
                                                    refine pure_ (i := 0) (N := some 80) (v := ?_) (a' := ?_) #[true, false, false, false, false, false, false, false, false, false, false, false, false] rfl rfl (any_of HT_.out (by kernel_rfl)) (fun _ _ _ h => h) (Or.inl ⟨by rfl, ?_⟩) ?_ ?_
                                                    rotate_left
                                                    · intro w'
                                                      go_simp
                                                      with_reducible rfl
                                                    rotate_left
                                                    · simp only [Act.put, List.setIfInBounds_toArray, List.set_cons_zero, List.set_cons_succ, i64_w, i32_w]
                                                      rfl
                                                    refine pure_ (i := 1) (N := some 81) (v := ?_) (a' := ?_) #[true, true, false, false, false, false, false, false, false, false, false, false, false] rfl rfl (any_of HT_.out (by kernel_rfl)) (fun _ _ _ h => h) (Or.inl ⟨by rfl, ?_⟩) ?_ ?_
                                                    rotate_left
                                                    · intro w'
                                                      go_simp
                                                      with_reducible rfl
                                                    rotate_left
                                                    · simp only [Act.put, List.setIfInBounds_toArray, List.set_cons_zero, List.set_cons_succ, i64_w, i32_w]
                                                      rfl
                                                    refine pure_ (i := 2) (N := some 82) (v := ?_) (a' := ?_) #[true, true, true, false, false, false, false, false, false, false, false, false, false] rfl rfl (any_of HT_.out (by kernel_rfl)) (fun _ _ _ h => h) (Or.inl ⟨by rfl, ?_⟩) ?_ ?_
                                                    rotate_left
                                                    · intro w'
                                                      go_simp
                                                      with_reducible rfl
                                                    rotate_left
                                                    · simp only [Act.put, List.setIfInBounds_toArray, List.set_cons_zero, List.set_cons_succ, i64_w, i32_w]
                                                      rfl
                                                    refine pure_ (i := 3) (N := some 83) (v := ?_) (a' := ?_) #[true, true, true, true, false, false, false, false, false, false, false, false, false] rfl rfl (any_of HT_.out (by kernel_rfl)) (fun _ _ _ h => h) (Or.inl ⟨by rfl, ?_⟩) ?_ ?_
                                                    rotate_left
                                                    · intro w'
                                                      go_simp
                                                      with_reducible rfl
                                                    rotate_left
                                                    · simp only [Act.put, List.setIfInBounds_toArray, List.set_cons_zero, List.set_cons_succ, i64_w, i32_w]
                                                      rfl
                                                    refine pure_ (i := 4) (N := some 84) (v := ?_) (a' := ?_) #[true, true, true, true, true, false, false, false, false, false, false, false, false] rfl rfl (any_of HT_.out (by kernel_rfl)) (fun _ _ _ h => h) (Or.inl ⟨by rfl, ?_⟩) ?_ ?_
                                                    rotate_left
                                                    · intro w'
                                                      go_simp
                                                      with_reducible rfl
                                                    rotate_left
                                                    · simp only [Act.put, List.setIfInBounds_toArray, List.set_cons_zero, List.set_cons_succ, i64_w, i32_w]
                                                      rfl
                                                    refine pure_ (i := 5) (N := some 85) (v := ?_) (a' := ?_) #[true, true, true, true, true, true, false, false, false, false, false, false, false] rfl rfl (any_of HT_.out (by kernel_rfl)) (fun _ _ _ h => h) (Or.inl ⟨by rfl, ?_⟩) ?_ ?_
                                                    rotate_left
                                                    · intro w'
                                                      go_simp
                                                      with_reducible rfl
                                                    rotate_left
                                                    · simp only [Act.put, List.setIfInBounds_toArray, List.set_cons_zero, List.set_cons_succ, i64_w, i32_w]
                                                      rfl
                                                    refine pure_ (i := 6) (N := some 86) (v := ?_) (a' := ?_) #[true, true, true, true, true, true, true, false, false, false, false, false, false] rfl rfl (any_of HT_.out (by kernel_rfl)) (fun _ _ _ h => h) (Or.inl ⟨by rfl, ?_⟩) ?_ ?_
                                                    rotate_left
                                                    · intro w'
                                                      go_simp
                                                      with_reducible rfl
                                                    rotate_left
                                                    · simp only [Act.put, List.setIfInBounds_toArray, List.set_cons_zero, List.set_cons_succ, i64_w, i32_w]
                                                      rfl
                                                    refine pure_ (i := 7) (N := some 87) (v := ?_) (a' := ?_) #[true, true, true, true, true, true, true, true, false, false, false, false, false] rfl rfl (any_of HT_.out (by kernel_rfl)) (fun _ _ _ h => h) (Or.inl ⟨by rfl, ?_⟩) ?_ ?_
                                                    rotate_left
                                                    · intro w'
                                                      go_simp
                                                      with_reducible rfl
                                                    rotate_left
                                                    · simp only [Act.put, List.setIfInBounds_toArray, List.set_cons_zero, List.set_cons_succ, i64_w, i32_w]
                                                      rfl
                                                    refine pure_ (i := 8) (N := some 88) (v := ?_) (a' := ?_) #[true, true, true, true, true, true, true, true, true, false, false, false, false] rfl rfl (any_of HT_.out (by kernel_rfl)) (fun _ _ _ h => h) (Or.inl ⟨by rfl, ?_⟩) ?_ ?_
                                                    rotate_left
                                                    · intro w'
                                                      go_simp
                                                      with_reducible rfl
                                                    rotate_left
                                                    · simp only [Act.put, List.setIfInBounds_toArray, List.set_cons_zero, List.set_cons_succ, i64_w, i32_w]
                                                      rfl
                                                    refine pure_ (i := 9) (N := some 89) (v := ?_) (a' := ?_) #[true, true, true, true, true, true, true, true, true, true, false, false, false] rfl rfl (any_of HT_.out (by kernel_rfl)) (fun _ _ _ h => h) (Or.inl ⟨by rfl, ?_⟩) ?_ ?_
                                                    rotate_left
                                                    · intro w'
                                                      go_simp
                                                      with_reducible rfl
                                                    rotate_left
                                                    · simp only [Act.put, List.setIfInBounds_toArray, List.set_cons_zero, List.set_cons_succ, i64_w, i32_w]
                                                      rfl
                                                    refine one_ (i := 10) (N := none) #[true, true, true, true, true, true, true, true, true, true, true, false, false] rfl rfl (one_of HT_.out (by kernel_rfl)) (by decide) (fun K hK => ?_)
                                                    have hs52 : w51.cell? ⟨gb155, 0, none⟩ = some (.string (⟨#[]⟩ : ByteArray)) := (blk_cell BK155.out 0).trans rfl
                                                    have hfs52 := blk_frozen BK155.out 0
                                                    have hs53 : w51.cell? ⟨gb155, 1, none⟩ = some (.int .i64 0) := (blk_cell BK155.out 1).trans rfl
                                                    have hfs53 := blk_frozen BK155.out 1
                                                    have hs54 : w51.cell? ⟨gb155, 2, none⟩ = some (.int .i64 0) := (blk_cell BK155.out 2).trans rfl
                                                    have hfs54 := blk_frozen BK155.out 2
                                                    have hs55 : w51.cell? ⟨gb155, 3, none⟩ = some (.string (⟨#[]⟩ : ByteArray)) := (blk_cell BK155.out 3).trans rfl
                                                    have hfs55 := blk_frozen BK155.out 3
                                                    refine skip_ (w1 := ?_) (by rfl) rfl ?_ ?_
                                                    rotate_left
                                                    · go_simp
                                                      rfl
                                                    refine hK.out _ _ trivial (fun hHeld => ?_)
                                                    clear hK K
                                                    refine pure_ (i := 11) (N := some 3) (v := ?_) (a' := ?_) #[true, true, true, true, true, true, true, true, true, true, true, true, false] rfl rfl (any_of HT_.out (by kernel_rfl)) (fun _ _ _ h => h) (Or.inl ⟨by rfl, ?_⟩) ?_ ?_
                                                    rotate_left
                                                    · intro w'
                                                      go_simp
                                                      with_reducible rfl
                                                    rotate_left
                                                    · simp only [Act.put, List.setIfInBounds_toArray, List.set_cons_zero, List.set_cons_succ, i64_w, i32_w]
                                                      rfl
                                                    refine pure_ (i := 12) (N := some 4) (v := ?_) (a' := ?_) #[true, true, true, true, true, true, true, true, true, true, true, true, true] rfl rfl (any_of HT_.out (by kernel_rfl)) (fun _ _ _ h => h) (Or.inl ⟨by rfl, ?_⟩) ?_ ?_
                                                    rotate_left
                                                    · intro w'
                                                      go_simp
                                                      with_reducible rfl
                                                    rotate_left
                                                    · simp only [Act.put, List.setIfInBounds_toArray, List.set_cons_zero, List.set_cons_succ, i64_w, i32_w]
                                                      rfl
                                                    refine done_ (done_of HT_.out (by kernel_rfl)) ?_
                                                    try go_wp2
                                                    refine bodyPost_ret (results_ctt rfl _ _ gb155 43 #[.string (⟨#[]⟩ : ByteArray), .int .i64 2, .int .i64 (wrap64 (x5_3 * x8_5)), .string (⟨#[]⟩ : ByteArray)] (0, 0) _ rfl (by (with_reducible repeat (first | refine blk_drewN ?_ _ | refine blk_drew ?_ | refine blk_alloc ?_ _)); refine blk_put (cs := #[.string (⟨#[]⟩ : ByteArray), .int .i64 2, .int .i64 (wrap64 (x5_3 * x8_5)), .string (⟨#[]⟩ : ByteArray)]) ?_ 3 _ rfl; (with_reducible repeat (first | refine blk_drewN ?_ _ | refine blk_drew ?_ | refine blk_alloc ?_ _)); refine blk_put (cs := #[.string (⟨#[]⟩ : ByteArray), .int .i64 2, .int .i64 0, .string (⟨#[]⟩ : ByteArray)]) ?_ 2 _ rfl; (with_reducible repeat (first | refine blk_drewN ?_ _ | refine blk_drew ?_ | refine blk_alloc ?_ _)); refine blk_put (cs := #[.string (⟨#[]⟩ : ByteArray), .int .i64 0, .int .i64 0, .string (⟨#[]⟩ : ByteArray)]) ?_ 1 _ rfl; (with_reducible repeat (first | refine blk_drewN ?_ _ | refine blk_drew ?_ | refine blk_alloc ?_ _)); refine blk_put (cs := #[.string (⟨#[]⟩ : ByteArray), .int .i64 0, .int .i64 0, .string (⟨#[]⟩ : ByteArray)]) ?_ 0 _ rfl; (with_reducible repeat (first | refine blk_drewN ?_ _ | refine blk_drew ?_ | refine blk_alloc ?_ _)); exact BK155.out) Tryz.underlying43 rfl (by kernel_rfl)) rfl ?_
                                                    exact ⟨by first | rfl | (simp [errW_none, errW_some] <;> rfl) | (simp only [← hji29, ← hji29, ← hji48]; first | rfl | (simp [errW_none, errW_some] <;> rfl)) | (simp [*, errW_none, errW_some] <;> rfl) | (simp [q_ne_nil]; done), by repeat (first | (with_reducible first | exact HB.out | apply below_alloc | apply pw_below_drewN | apply below_drew1 | refine below_set ?_ GE155.out) | exact HB.out)⟩
                                                  · rw [if_neg c50] at H
                                                    exact absurd H (by simp)
                                                · rw [if_neg c49] at H
                                                  exact absurd H (by simp)
                                        · rw [if_neg c44] at H
                                          exact absurd H (by simp)
                                      · rw [if_neg c43] at H
                                        exact absurd H (by simp)
                                    · rw [if_neg c42] at H
                                      exact absurd H (by simp)
                                  · rw [if_neg c41] at H
                                    exact absurd H (by simp)
                                · rw [if_neg c39] at H
                                  exact absurd H (by simp)
                              · rw [if_neg c38] at H
                                exact absurd H (by simp)
                      · rw [if_neg c31] at H
                        exact absurd H (by simp)
                    · rw [if_neg c30] at H
                      exact absurd H (by simp)
  · rw [if_neg c2] at H
    exact absurd H (by simp)
end Go.Proofs.YtbbaokjkmcfceaaGreatDoor.Q
