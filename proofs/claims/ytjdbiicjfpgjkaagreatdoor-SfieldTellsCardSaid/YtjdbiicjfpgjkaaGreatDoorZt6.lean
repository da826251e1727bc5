/- The law SfieldTells: contracts, words and plain lemmas that its proof reaches, part 6. Its conditions: the row's own. -/
import Derived.Test.YtjdbiicjfpgjkaaGreatDoorZt5
set_option maxHeartbeats 8000000
set_option maxRecDepth 100000
namespace Go.Proofs.YtjdbiicjfpgjkaaGreatDoor.Q
open Go.RowKit Go.Proofs.YtjdbiicjfpgjkaaGreatDoorW.PrintWords Go.Proofs.YtjdbiicjfpgjkaaGreatDoorW.PrintLast Go.Proofs.YtjdbiicjfpgjkaaGreatDoorW.PrintMore
set_option linter.unusedVariables false
set_option linter.unusedSimpArgs false
mutual
def glacisref06_DictText.l0 : Nat → List (S34) → ByteArray → Int → Option (ByteArray × Int)
 | 0, _, _, _ => none
 | k + 1, x0, x4, x5 => if x5 < (x0.length : Int) then (if 0 ≤ x5 then ((glacisref06_text.f k ((rd_T34 x0 x5).f0) ((rd_T34 x0 x5).f1) ((rd_T34 x0 x5).f2.f0) ((rd_T34 x0 x5).f2.f1) ((rd_T34 x0 x5).f2.f2) ((rd_T34 x0 x5).f2.f3) ((rd_T34 x0 x5).f3) ((rd_T34 x0 x5).f4)).bind fun bt576 => ((glacisref05_Key.f k ((rd_T34 x0 x5).f0)).bind fun bt579 => (glacisref06_DictText.l1 k x0 x4 x5 bt576.1 bt576.2 bt579.1 bt579.2.1 bt579.2.2 0))) else (none)) else (some (x4, 0))
def glacisref06_DictText.l1 : Nat → List (S34) → ByteArray → Int → ByteArray → Bool → ByteArray → ByteArray → Int → Int → Option (ByteArray × Int)
 | 0, _, _, _, _, _, _, _, _, _ => none
 | k + 1, x0, x4, x5, x6, x7, x8, x9, x10, x11 => if x11 < x5 then (if x7 = true then (if 0 ≤ x11 then (if x11 < (x0.length : Int) then (if 0 ≤ x5 then (if x5 < (x0.length : Int) then (glacisref06_DictText.l1 k x0 x4 x5 x6 (((rd_T34 x0 x11).f0).toList != ((rd_T34 x0 x5).f0).toList) x8 x9 x10 (wrap64 (x11 + 1))) else (none)) else (none)) else (none)) else (none)) else (glacisref06_DictText.l1 k x0 x4 x5 x6 false x8 x9 x10 (wrap64 (x11 + 1)))) else (if x7 = true then (if x10 = 0 then (glacisref06_DictText.j2 k x0 x4 x5 x6 x8 (x9.toList != ([] : List UInt8))) else (glacisref06_DictText.j2 k x0 x4 x5 x6 x8 true)) else (glacisref06_DictText.j2 k x0 x4 x5 x6 x8 true))
def glacisref06_DictText.j2 : Nat → List (S34) → ByteArray → Int → ByteArray → ByteArray → Bool → Option (ByteArray × Int)
 | 0, _, _, _, _, _, _ => none
 | k + 1, x0, x4, x5, x6, x8, x66 => if x66 = true then (some ((⟨#[]⟩ : ByteArray), 50)) else (if x5 > 0 then (if x4.size + 2 ≤ 9223372036854775807 then (if 0 ≤ x5 then (if x5 < (x0.length : Int) then (if ((rd_T34 x0 x5).f1 = true) then (if (x4 ++ (⟨#[44, 32]⟩ : ByteArray)).size + x8.size ≤ 9223372036854775807 then (if ((x4 ++ (⟨#[44, 32]⟩ : ByteArray)) ++ x8).size + 1 ≤ 9223372036854775807 then (if (((x4 ++ (⟨#[44, 32]⟩ : ByteArray)) ++ x8) ++ (⟨#[61]⟩ : ByteArray)).size + x6.size ≤ 9223372036854775807 then (glacisref06_DictText.l0 k x0 ((((x4 ++ (⟨#[44, 32]⟩ : ByteArray)) ++ x8) ++ (⟨#[61]⟩ : ByteArray)) ++ x6) (wrap64 (x5 + 1))) else (none)) else (none)) else (none)) else (if ((rd_T34 x0 x5).f2.f0) = 6 then (if ((rd_T34 x0 x5).f2.f1) = 1 then ((glacisref05_Tail.f k ((rd_T34 x0 x5).f2.f3)).bind fun bt588 => (if (x4 ++ (⟨#[44, 32]⟩ : ByteArray)).size + x8.size ≤ 9223372036854775807 then (if ((x4 ++ (⟨#[44, 32]⟩ : ByteArray)) ++ x8).size + bt588.1.size ≤ 9223372036854775807 then (glacisref06_DictText.l0 k x0 (((x4 ++ (⟨#[44, 32]⟩ : ByteArray)) ++ x8) ++ bt588.1) (wrap64 (x5 + 1))) else (none)) else (none))) else (if (x4 ++ (⟨#[44, 32]⟩ : ByteArray)).size + x8.size ≤ 9223372036854775807 then (if ((x4 ++ (⟨#[44, 32]⟩ : ByteArray)) ++ x8).size + 1 ≤ 9223372036854775807 then (if (((x4 ++ (⟨#[44, 32]⟩ : ByteArray)) ++ x8) ++ (⟨#[61]⟩ : ByteArray)).size + x6.size ≤ 9223372036854775807 then (glacisref06_DictText.l0 k x0 ((((x4 ++ (⟨#[44, 32]⟩ : ByteArray)) ++ x8) ++ (⟨#[61]⟩ : ByteArray)) ++ x6) (wrap64 (x5 + 1))) else (none)) else (none)) else (none))) else (if (x4 ++ (⟨#[44, 32]⟩ : ByteArray)).size + x8.size ≤ 9223372036854775807 then (if ((x4 ++ (⟨#[44, 32]⟩ : ByteArray)) ++ x8).size + 1 ≤ 9223372036854775807 then (if (((x4 ++ (⟨#[44, 32]⟩ : ByteArray)) ++ x8) ++ (⟨#[61]⟩ : ByteArray)).size + x6.size ≤ 9223372036854775807 then (glacisref06_DictText.l0 k x0 ((((x4 ++ (⟨#[44, 32]⟩ : ByteArray)) ++ x8) ++ (⟨#[61]⟩ : ByteArray)) ++ x6) (wrap64 (x5 + 1))) else (none)) else (none)) else (none)))) else (none)) else (none)) else (none)) else (if 0 ≤ x5 then (if x5 < (x0.length : Int) then (if ((rd_T34 x0 x5).f1 = true) then (if x4.size + x8.size ≤ 9223372036854775807 then (if (x4 ++ x8).size + 1 ≤ 9223372036854775807 then (if ((x4 ++ x8) ++ (⟨#[61]⟩ : ByteArray)).size + x6.size ≤ 9223372036854775807 then (glacisref06_DictText.l0 k x0 (((x4 ++ x8) ++ (⟨#[61]⟩ : ByteArray)) ++ x6) (wrap64 (x5 + 1))) else (none)) else (none)) else (none)) else (if ((rd_T34 x0 x5).f2.f0) = 6 then (if ((rd_T34 x0 x5).f2.f1) = 1 then ((glacisref05_Tail.f k ((rd_T34 x0 x5).f2.f3)).bind fun bt594 => (if x4.size + x8.size ≤ 9223372036854775807 then (if (x4 ++ x8).size + bt594.1.size ≤ 9223372036854775807 then (glacisref06_DictText.l0 k x0 ((x4 ++ x8) ++ bt594.1) (wrap64 (x5 + 1))) else (none)) else (none))) else (if x4.size + x8.size ≤ 9223372036854775807 then (if (x4 ++ x8).size + 1 ≤ 9223372036854775807 then (if ((x4 ++ x8) ++ (⟨#[61]⟩ : ByteArray)).size + x6.size ≤ 9223372036854775807 then (glacisref06_DictText.l0 k x0 (((x4 ++ x8) ++ (⟨#[61]⟩ : ByteArray)) ++ x6) (wrap64 (x5 + 1))) else (none)) else (none)) else (none))) else (if x4.size + x8.size ≤ 9223372036854775807 then (if (x4 ++ x8).size + 1 ≤ 9223372036854775807 then (if ((x4 ++ x8) ++ (⟨#[61]⟩ : ByteArray)).size + x6.size ≤ 9223372036854775807 then (glacisref06_DictText.l0 k x0 (((x4 ++ x8) ++ (⟨#[61]⟩ : ByteArray)) ++ x6) (wrap64 (x5 + 1))) else (none)) else (none)) else (none)))) else (none)) else (none)))
end
def glacisref06_DictText.f (k : Nat) (l0 : List (S34)) : Option (ByteArray × Int) := glacisref06_DictText.l0 k l0 (⟨#[]⟩ : ByteArray) 0
theorem glacisref06_DictText.calls (k : Nat) (A0 : Option Addr) (c0 : Nat) (l0 : List (S34)) (r1 : ByteArray) (r2 : Int) (w : World) (hT_ : Aside0 (TabW w)) (hr0 : Kd.C k34 w A0 l0.length l0) (hc0 : l0.length ≤ c0) (h : glacisref06_DictText.f k l0 = some (r1, r2)) :
  Calls Tryz.prog 20 #[.slice A0 l0.length c0] w fun e w' => e = .returned (.tuple #[.string r1, .int .i64 r2]) ∧ Below w.heap.size w w' := by
 have hu34 := Tryz.underlying34
 have HR0 := Aside0.mk hr0
 have HC0 := Aside0.mk hc0
 clear hr0 hc0
 have HB := Aside0.mk (Below.refl w.heap.size w)
 have H : (glacisref06_DictText.l0 k l0 (⟨#[]⟩ : ByteArray) 0) = some (r1, r2) := h
 clear h
 have H' := Aside0.mk H
 clear H
 go_enter Tryz.func20, Tryz.ntmps20
 go_wp2
 repeat (go_quiet (fail); try go_wp2)
 go_loopg [4, 5] k (fun kq v4 v5 w' => ∃ (x4_1 : ByteArray) (x5_1 : Int), v4 = .string x4_1 ∧ v5 = .int .i64 x5_1 ∧ Aside0 (glacisref06_DictText.l0 kq l0 x4_1 x5_1 = some (r1, r2)) ∧ Aside0 (kq ≤ k) ∧ Aside0 (Below w.heap.size w w'))
 case atStart => exact ⟨((⟨#[]⟩ : ByteArray)), (0), (by first | rfl | simp [*]), (by first | rfl | simp [*]), H', ⟨Nat.le_refl _⟩, ⟨bl_ HB.out⟩⟩
 case round =>
  clear H'
  obtain ⟨x4_1, x5_1, rfl, rfl, HA, HK1, HB⟩ := hrel
  cases gk with
  | zero => exact absurd HA.out (by simp [glacisref06_DictText.l0])
  | succ k1 =>
   have H := HA.out
   clear HA
   simp only [glacisref06_DictText.l0] at H
   by_cases c2 : x5_1 < (l0.length : Int)
   rotate_left
   ·rw [if_neg c2] at H
    have c2b0 := decide_eq_false c2
    clear c2
    simp only [Option.some.injEq, Prod.mk.injEq] at H
    obtain ⟨rfl, rfl⟩ := H
    go_wp2
    repeat (go_quiet (fail); try go_wp2)
    go_ret2
    exact ⟨by first | rfl | simp [*, errW_none, errW_some, q_ne_nil], bl_ HB.out⟩
   rw [if_pos c2] at H
   have c2b0 := decide_eq_true c2
   clear c2
   replace H := ifs_ H; obtain ⟨c3, H⟩ := H
   have c3b0 := decide_eq_true c3
   clear c3
   replace H := Option.bind_eq_some_iff.mp H
   obtain ⟨⟨t576, t577⟩, A40, H⟩ := H
   (try dsimp only at H)
   have A4 := Aside0.mk A40
   clear A40
   replace H := Option.bind_eq_some_iff.mp H
   obtain ⟨⟨t579, t580, t581⟩, A50, H⟩ := H
   (try dsimp only at H)
   have A5 := Aside0.mk A50
   clear A50
   have H' := Aside0.mk H
   clear H
   have p575 : 0 ≤ (x5_1 : Int) := of_decide_eq_true (by assumption)
   have q575 : x5_1 < (l0.length : Int) := of_decide_eq_true (by assumption)
   obtain ⟨ad575, A575_5, c575_5, A575_6, c575_6, A575_7, c575_7, e575, hx575_0, hx575_1, hx575_2, hx575_3, hx575_4, hx575_5, hx575_6, hx575_7, hl575_5, hi575_5, hl575_6, hi575_6, hl575_7, hi575_7⟩ := at_T34 HR0.out x5_1 p575 q575
   cases e575
   obtain ⟨hx575_0, hx575_1, hx575_2, hx575_3, hx575_4, hx575_5, hx575_6, hx575_7⟩ := lb8_ HB.out hx575_0 hx575_1 hx575_2 hx575_3 hx575_4 hx575_5 hx575_6 hx575_7
   have HR575_5 := Aside0.mk hi575_5
   have HC575_5 := Aside0.mk hl575_5
   clear hi575_5 hl575_5
   have HR575_6 := Aside0.mk hi575_6
   have HC575_6 := Aside0.mk hl575_6
   clear hi575_6 hl575_6
   have HR575_7 := Aside0.mk hi575_7
   have HC575_7 := Aside0.mk hl575_7
   clear hi575_7 hl575_7
   replace p575 := eq_true p575
   replace q575 := eq_true q575
   go_wp2_with (first | (go_at_call 34; (with_reducible refine (glacisref06_text.calls k1 ((rd_T34 l0 x5_1).f0) ((rd_T34 l0 x5_1).f1) ((rd_T34 l0 x5_1).f2.f0) ((rd_T34 l0 x5_1).f2.f1) ((rd_T34 l0 x5_1).f2.f2) _ _ ((rd_T34 l0 x5_1).f2.f3) _ _ ((rd_T34 l0 x5_1).f3) _ _ ((rd_T34 l0 x5_1).f4) t576 t577 _ (tab_ hT_ ?hTab) ?side1 ?side2 ?side3 ?side4 ?side5 ?side6 A4.out).mono ?_); (case hTab => exact (bl_ HB.out)); (case side1 => repeat (first | exact (Kd.C_below HR575_5.out HB.out) | (with_reducible refine Kd.C_alloc ?_ _) | (with_reducible refine Kd.C_drewN ?_ _) | (with_reducible refine Kd.C_drew ?_))); (case side2 => exact HC575_5.out); (case side3 => repeat (first | exact (Kd.C_below HR575_6.out HB.out) | (with_reducible refine Kd.C_alloc ?_ _) | (with_reducible refine Kd.C_drewN ?_ _) | (with_reducible refine Kd.C_drew ?_))); (case side4 => exact HC575_6.out); (case side5 => repeat (first | exact (Kd.C_below HR575_7.out HB.out) | (with_reducible refine Kd.C_alloc ?_ _) | (with_reducible refine Kd.C_drewN ?_ _) | (with_reducible refine Kd.C_drew ?_))); (case side6 => exact HC575_7.out); rintro e w6 ⟨rfl, hb⟩; replace HB := bs_ HB hb; (try clear hb); have p578 : 0 ≤ (x5_1 : Int) := of_decide_eq_true (by assumption); have q578 : x5_1 < (l0.length : Int) := of_decide_eq_true (by assumption); obtain ⟨ad578, A578_5, c578_5, A578_6, c578_6, A578_7, c578_7, e578, hx578_0, hx578_1, hx578_2, hx578_3, hx578_4, hx578_5, hx578_6, hx578_7, hl578_5, hi578_5, hl578_6, hi578_6, hl578_7, hi578_7⟩ := at_T34 HR0.out x5_1 p578 q578; obtain rfl : ad575 = ad578 := (by injection e578); replace hx578_0 := lb_ HB.out hx578_0; replace hx578_1 := lb_ HB.out hx578_1; replace hx578_2 := lb_ HB.out hx578_2; replace hx578_3 := lb_ HB.out hx578_3; replace hx578_4 := lb_ HB.out hx578_4; replace hx578_5 := lb_ HB.out hx578_5; replace hx578_6 := lb_ HB.out hx578_6; replace hx578_7 := lb_ HB.out hx578_7; have HR578_5 := Aside0.mk hi578_5; have HC578_5 := Aside0.mk hl578_5; clear hi578_5 hl578_5; have HR578_6 := Aside0.mk hi578_6; have HC578_6 := Aside0.mk hl578_6; clear hi578_6 hl578_6; have HR578_7 := Aside0.mk hi578_7; have HC578_7 := Aside0.mk hl578_7; clear hi578_7 hl578_7; replace p578 := eq_true p578; replace q578 := eq_true q578) | (go_at_call 36; (with_reducible refine (glacisref05_Key.calls k1 ((rd_T34 l0 x5_1).f0) t579 t580 t581 _ A5.out).mono ?_); rintro e w' ⟨rfl, ⟨nd, rfl⟩⟩; (try first | exact ⟨rfl, _, World.drewN_drewN _ _ _⟩ | exact ⟨rfl, _, Eq.trans (World.drewN_drewN _ _ _) (congrArg (World.drewN _) (Nat.add_assoc _ _ _))⟩)))
   repeat (go_quiet (first | (go_at_call 34; (with_reducible refine (glacisref06_text.calls k1 ((rd_T34 l0 x5_1).f0) ((rd_T34 l0 x5_1).f1) ((rd_T34 l0 x5_1).f2.f0) ((rd_T34 l0 x5_1).f2.f1) ((rd_T34 l0 x5_1).f2.f2) _ _ ((rd_T34 l0 x5_1).f2.f3) _ _ ((rd_T34 l0 x5_1).f3) _ _ ((rd_T34 l0 x5_1).f4) t576 t577 _ (tab_ hT_ ?hTab) ?side1 ?side2 ?side3 ?side4 ?side5 ?side6 A4.out).mono ?_); (case hTab => exact (bl_ HB.out)); (case side1 => repeat (first | exact (Kd.C_below HR575_5.out HB.out) | (with_reducible refine Kd.C_alloc ?_ _) | (with_reducible refine Kd.C_drewN ?_ _) | (with_reducible refine Kd.C_drew ?_))); (case side2 => exact HC575_5.out); (case side3 => repeat (first | exact (Kd.C_below HR575_6.out HB.out) | (with_reducible refine Kd.C_alloc ?_ _) | (with_reducible refine Kd.C_drewN ?_ _) | (with_reducible refine Kd.C_drew ?_))); (case side4 => exact HC575_6.out); (case side5 => repeat (first | exact (Kd.C_below HR575_7.out HB.out) | (with_reducible refine Kd.C_alloc ?_ _) | (with_reducible refine Kd.C_drewN ?_ _) | (with_reducible refine Kd.C_drew ?_))); (case side6 => exact HC575_7.out); rintro e w6 ⟨rfl, hb⟩; replace HB := bs_ HB hb; (try clear hb); have p578 : 0 ≤ (x5_1 : Int) := of_decide_eq_true (by assumption); have q578 : x5_1 < (l0.length : Int) := of_decide_eq_true (by assumption); obtain ⟨ad578, A578_5, c578_5, A578_6, c578_6, A578_7, c578_7, e578, hx578_0, hx578_1, hx578_2, hx578_3, hx578_4, hx578_5, hx578_6, hx578_7, hl578_5, hi578_5, hl578_6, hi578_6, hl578_7, hi578_7⟩ := at_T34 HR0.out x5_1 p578 q578; obtain rfl : ad575 = ad578 := (by injection e578); replace hx578_0 := lb_ HB.out hx578_0; replace hx578_1 := lb_ HB.out hx578_1; replace hx578_2 := lb_ HB.out hx578_2; replace hx578_3 := lb_ HB.out hx578_3; replace hx578_4 := lb_ HB.out hx578_4; replace hx578_5 := lb_ HB.out hx578_5; replace hx578_6 := lb_ HB.out hx578_6; replace hx578_7 := lb_ HB.out hx578_7; have HR578_5 := Aside0.mk hi578_5; have HC578_5 := Aside0.mk hl578_5; clear hi578_5 hl578_5; have HR578_6 := Aside0.mk hi578_6; have HC578_6 := Aside0.mk hl578_6; clear hi578_6 hl578_6; have HR578_7 := Aside0.mk hi578_7; have HC578_7 := Aside0.mk hl578_7; clear hi578_7 hl578_7; replace p578 := eq_true p578; replace q578 := eq_true q578) | (go_at_call 36; (with_reducible refine (glacisref05_Key.calls k1 ((rd_T34 l0 x5_1).f0) t579 t580 t581 _ A5.out).mono ?_); rintro e w' ⟨rfl, ⟨nd, rfl⟩⟩; (try first | exact ⟨rfl, _, World.drewN_drewN _ _ _⟩ | exact ⟨rfl, _, Eq.trans (World.drewN_drewN _ _ _) (congrArg (World.drewN _) (Nat.add_assoc _ _ _))⟩))); try go_wp2_with (first | (go_at_call 34; (with_reducible refine (glacisref06_text.calls k1 ((rd_T34 l0 x5_1).f0) ((rd_T34 l0 x5_1).f1) ((rd_T34 l0 x5_1).f2.f0) ((rd_T34 l0 x5_1).f2.f1) ((rd_T34 l0 x5_1).f2.f2) _ _ ((rd_T34 l0 x5_1).f2.f3) _ _ ((rd_T34 l0 x5_1).f3) _ _ ((rd_T34 l0 x5_1).f4) t576 t577 _ (tab_ hT_ ?hTab) ?side1 ?side2 ?side3 ?side4 ?side5 ?side6 A4.out).mono ?_); (case hTab => exact (bl_ HB.out)); (case side1 => repeat (first | exact (Kd.C_below HR575_5.out HB.out) | (with_reducible refine Kd.C_alloc ?_ _) | (with_reducible refine Kd.C_drewN ?_ _) | (with_reducible refine Kd.C_drew ?_))); (case side2 => exact HC575_5.out); (case side3 => repeat (first | exact (Kd.C_below HR575_6.out HB.out) | (with_reducible refine Kd.C_alloc ?_ _) | (with_reducible refine Kd.C_drewN ?_ _) | (with_reducible refine Kd.C_drew ?_))); (case side4 => exact HC575_6.out); (case side5 => repeat (first | exact (Kd.C_below HR575_7.out HB.out) | (with_reducible refine Kd.C_alloc ?_ _) | (with_reducible refine Kd.C_drewN ?_ _) | (with_reducible refine Kd.C_drew ?_))); (case side6 => exact HC575_7.out); rintro e w6 ⟨rfl, hb⟩; replace HB := bs_ HB hb; (try clear hb); have p578 : 0 ≤ (x5_1 : Int) := of_decide_eq_true (by assumption); have q578 : x5_1 < (l0.length : Int) := of_decide_eq_true (by assumption); obtain ⟨ad578, A578_5, c578_5, A578_6, c578_6, A578_7, c578_7, e578, hx578_0, hx578_1, hx578_2, hx578_3, hx578_4, hx578_5, hx578_6, hx578_7, hl578_5, hi578_5, hl578_6, hi578_6, hl578_7, hi578_7⟩ := at_T34 HR0.out x5_1 p578 q578; obtain rfl : ad575 = ad578 := (by injection e578); replace hx578_0 := lb_ HB.out hx578_0; replace hx578_1 := lb_ HB.out hx578_1; replace hx578_2 := lb_ HB.out hx578_2; replace hx578_3 := lb_ HB.out hx578_3; replace hx578_4 := lb_ HB.out hx578_4; replace hx578_5 := lb_ HB.out hx578_5; replace hx578_6 := lb_ HB.out hx578_6; replace hx578_7 := lb_ HB.out hx578_7; have HR578_5 := Aside0.mk hi578_5; have HC578_5 := Aside0.mk hl578_5; clear hi578_5 hl578_5; have HR578_6 := Aside0.mk hi578_6; have HC578_6 := Aside0.mk hl578_6; clear hi578_6 hl578_6; have HR578_7 := Aside0.mk hi578_7; have HC578_7 := Aside0.mk hl578_7; clear hi578_7 hl578_7; replace p578 := eq_true p578; replace q578 := eq_true q578) | (go_at_call 36; (with_reducible refine (glacisref05_Key.calls k1 ((rd_T34 l0 x5_1).f0) t579 t580 t581 _ A5.out).mono ?_); rintro e w' ⟨rfl, ⟨nd, rfl⟩⟩; (try first | exact ⟨rfl, _, World.drewN_drewN _ _ _⟩ | exact ⟨rfl, _, Eq.trans (World.drewN_drewN _ _ _) (congrArg (World.drewN _) (Nat.add_assoc _ _ _))⟩))))
   go_loopg [7, 11] k1 (fun kq v7 v11 w' => ∃ (x7_2 : Bool) (x11_2 : Int), v7 = .bool x7_2 ∧ v11 = .int .i64 x11_2 ∧ Aside0 (glacisref06_DictText.l1 kq l0 x4_1 x5_1 t576 x7_2 t579 t580 t581 x11_2 = some (r1, r2)) ∧ Aside0 (kq ≤ k1) ∧ Aside0 (Below w.heap.size w w'))
   case atStart => exact ⟨(t577), (0), (by first | rfl | simp [*]), (by first | rfl | simp [*]), H', ⟨Nat.le_refl _⟩, ⟨bl_ HB.out⟩⟩
   case round =>
    clear H'
    (try clear c2)
    obtain ⟨x7_2, x11_2, rfl, rfl, HA, HK2, HB⟩ := hrel
    cases gk with
    | zero => exact absurd HA.out (by simp [glacisref06_DictText.l1])
    | succ k2 =>
     have H := HA.out
     clear HA
     simp only [glacisref06_DictText.l1] at H
     by_cases c7 : x11_2 < x5_1
     ·rw [if_pos c7] at H
      have c7b0 := decide_eq_true c7
      clear c7
      by_cases c8 : x7_2 = true
      rotate_left
      ·replace c8 := Bool.eq_false_iff.mpr c8
       subst c8
       rw [if_neg (show ¬ (false = true) by decide)] at H
       have H' := Aside0.mk H
       clear H
       go_wp2
       repeat (go_quiet (fail); try go_wp2)
       go_roundg k2
       case measure => have := HK1.out; have := HK2.out; omega
       case rel => exact ⟨(false), (wrap64 (x11_2 + 1)), (by first | rfl | simp [*]), (by first | rfl | simp [*]), H', ⟨by have := HK1.out; have := HK2.out; omega⟩, ⟨bl_ HB.out⟩⟩
      subst c8
      rw [if_pos rfl] at H
      replace H := ifs_ H; obtain ⟨c9, H⟩ := H
      have c9b0 := decide_eq_true c9
      clear c9
      replace H := ifs_ H; obtain ⟨c10, H⟩ := H
      have c10b0 := decide_eq_true c10
      clear c10
      replace H := ifs_ H; obtain ⟨c11, H⟩ := H
      have c11b0 := decide_eq_true c11
      clear c11
      replace H := ifs_ H; obtain ⟨c12, H⟩ := H
      have c12b0 := decide_eq_true c12
      clear c12
      have H' := Aside0.mk H
      clear H
      have p582 : 0 ≤ (x11_2 : Int) := of_decide_eq_true (by assumption)
      have q582 : x11_2 < (l0.length : Int) := of_decide_eq_true (by assumption)
      obtain ⟨ad582, A582_5, c582_5, A582_6, c582_6, A582_7, c582_7, e582, hx582_0, hx582_1, hx582_2, hx582_3, hx582_4, hx582_5, hx582_6, hx582_7, hl582_5, hi582_5, hl582_6, hi582_6, hl582_7, hi582_7⟩ := at_T34 HR0.out x11_2 p582 q582
      obtain rfl : ad575 = ad582 := (by injection e582)
      obtain ⟨hx582_0, hx582_1, hx582_2, hx582_3, hx582_4, hx582_5, hx582_6, hx582_7⟩ := lb8_ HB.out hx582_0 hx582_1 hx582_2 hx582_3 hx582_4 hx582_5 hx582_6 hx582_7
      have HR582_5 := Aside0.mk hi582_5
      have HC582_5 := Aside0.mk hl582_5
      clear hi582_5 hl582_5
      have HR582_6 := Aside0.mk hi582_6
      have HC582_6 := Aside0.mk hl582_6
      clear hi582_6 hl582_6
      have HR582_7 := Aside0.mk hi582_7
      have HC582_7 := Aside0.mk hl582_7
      clear hi582_7 hl582_7
      replace p582 := eq_true p582
      replace q582 := eq_true q582
      have p583 : 0 ≤ (x5_1 : Int) := of_decide_eq_true (by assumption)
      have q583 : x5_1 < (l0.length : Int) := of_decide_eq_true (by assumption)
      obtain ⟨ad583, A583_5, c583_5, A583_6, c583_6, A583_7, c583_7, e583, hx583_0, hx583_1, hx583_2, hx583_3, hx583_4, hx583_5, hx583_6, hx583_7, hl583_5, hi583_5, hl583_6, hi583_6, hl583_7, hi583_7⟩ := at_T34 HR0.out x5_1 p583 q583
      obtain rfl : ad575 = ad583 := (by injection e583)
      obtain ⟨hx583_0, hx583_1, hx583_2, hx583_3, hx583_4, hx583_5, hx583_6, hx583_7⟩ := lb8_ HB.out hx583_0 hx583_1 hx583_2 hx583_3 hx583_4 hx583_5 hx583_6 hx583_7
      have HR583_5 := Aside0.mk hi583_5
      have HC583_5 := Aside0.mk hl583_5
      clear hi583_5 hl583_5
      have HR583_6 := Aside0.mk hi583_6
      have HC583_6 := Aside0.mk hl583_6
      clear hi583_6 hl583_6
      have HR583_7 := Aside0.mk hi583_7
      have HC583_7 := Aside0.mk hl583_7
      clear hi583_7 hl583_7
      replace p583 := eq_true p583
      replace q583 := eq_true q583
      go_wp2
      repeat (go_quiet (fail); try go_wp2)
      go_roundg k2
      case measure => have := HK1.out; have := HK2.out; omega
      case rel => exact ⟨((((rd_T34 l0 x11_2).f0).toList != ((rd_T34 l0 x5_1).f0).toList)), (wrap64 (x11_2 + 1)), (by first | rfl | simp [*]), (by first | rfl | simp [*]), H', ⟨by have := HK1.out; have := HK2.out; omega⟩, ⟨bl_ HB.out⟩⟩
     rw [if_neg c7] at H
     have c7b0 := decide_eq_false c7
     clear c7
     have HC13 := Aside0.mk H
     clear H
     go_upto_region 11 with (fail)
     repeat (go_quiet (fail); go_upto_region 11 with (fail))
     go_cut [66] (fun v66 wc => ∃ (kq : Nat) (x66_12 : Bool), v66 = .bool x66_12 ∧ Aside0 (glacisref06_DictText.j2 kq l0 x4_1 x5_1 t576 t579 x66_12 = some (r1, r2)) ∧ Aside0 (kq ≤ k2) ∧ Aside0 (Below w.heap.size w wc))
     case first =>
      have H := HC13.out
      clear HC13
      by_cases c14 : x7_2 = true
      ·subst c14
       rw [if_pos rfl] at H
       by_cases c15 : t581 = 0
       ·rw [if_pos c15] at H
        obtain ⟨c15b0, c15b1⟩ := eT_ c15
        clear c15
        (first | rw [c15b0] | (simp only [i64_w, i32_w]; rw [c15b0]) | skip)
        have H' := Aside0.mk H
        clear H
        go_wp2
        repeat (go_quiet (fail); try go_wp2)
        go_meet
        case rel => exact ⟨_, ((t580.toList != ([] : List UInt8))), (by first | rfl | (simp [*]; done) | simp [q_ne_nil]), H', ⟨by have := HK1.out; have := HK2.out; first | omega | exact Nat.le_refl _⟩, ⟨bl_ HB.out⟩⟩
       rw [if_neg c15] at H
       obtain ⟨c15b0, c15b1⟩ := eF_ c15
       (first | rw [c15b0] | (simp only [i64_w, i32_w]; rw [c15b0]) | skip)
       have H' := Aside0.mk H
       clear H
       go_wp2
       repeat (go_quiet (fail); try go_wp2)
       go_meet
       case rel => exact ⟨_, (true), (by first | rfl | simp [*]), H', ⟨by have := HK1.out; have := HK2.out; first | omega | exact Nat.le_refl _⟩, ⟨bl_ HB.out⟩⟩
      replace c14 := Bool.eq_false_iff.mpr c14
      subst c14
      rw [if_neg (show ¬ (false = true) by decide)] at H
      have H' := Aside0.mk H
      clear H
      go_wp2
      repeat (go_quiet (fail); try go_wp2)
      go_meet
      case rel => exact ⟨_, (true), (by first | rfl | simp [*]), H', ⟨by have := HK1.out; have := HK2.out; first | omega | exact Nat.le_refl _⟩, ⟨bl_ HB.out⟩⟩
     case rest =>
      clear HC13
      (try clear c1)
      obtain ⟨kq, x66_12, rfl, HA, HJ12, HB⟩ := hcut
      cases kq with
      | zero => exact absurd HA.out (by simp [glacisref06_DictText.j2])
      | succ kj12 =>
       have H := HA.out
       clear HA
       simp only [glacisref06_DictText.j2] at H
       by_cases c16 : x66_12 = true
       ·subst c16
        rw [if_pos rfl] at H
        simp only [Option.some.injEq, Prod.mk.injEq] at H
        obtain ⟨rfl, rfl⟩ := H
        go_wp2
        repeat (go_quiet (fail); try go_wp2)
        go_ret2
        exact ⟨by first | rfl | simp [*, errW_none, errW_some, q_ne_nil], bl_ HB.out⟩
       replace c16 := Bool.eq_false_iff.mpr c16
       subst c16
       rw [if_neg (show ¬ (false = true) by decide)] at H
       by_cases c17 : x5_1 > 0
       ·rw [if_pos c17] at H
        have c17b0 : decide (0 < x5_1) = true := decide_eq_true c17
        clear c17
        replace H := ifs_ H; obtain ⟨c18, H⟩ := H
        have c18b0 := eq_true c18
        have c18b1 := decide_eq_true c18
        try have c18b2 : (9223372036854775807 < x4_1.size + 2) = False := eq_false (Nat.not_lt.2 c18)
        replace H := ifs_ H; obtain ⟨c19, H⟩ := H
        have c19b0 := decide_eq_true c19
        clear c19
        replace H := ifs_ H; obtain ⟨c20, H⟩ := H
        have c20b0 := decide_eq_true c20
        clear c20
        obtain ⟨bq21, hbq21⟩ : ∃ b_ : Bool, b_ = ((rd_T34 l0 x5_1).f1) := ⟨_, rfl⟩
        replace H : (if (bq21 = true) then (if (x4_1 ++ (⟨#[44, 32]⟩ : ByteArray)).size + t579.size ≤ 9223372036854775807 then (if ((x4_1 ++ (⟨#[44, 32]⟩ : ByteArray)) ++ t579).size + 1 ≤ 9223372036854775807 then (if (((x4_1 ++ (⟨#[44, 32]⟩ : ByteArray)) ++ t579) ++ (⟨#[61]⟩ : ByteArray)).size + t576.size ≤ 9223372036854775807 then (glacisref06_DictText.l0 kj12 l0 ((((x4_1 ++ (⟨#[44, 32]⟩ : ByteArray)) ++ t579) ++ (⟨#[61]⟩ : ByteArray)) ++ t576) (wrap64 (x5_1 + 1))) else (none)) else (none)) else (none)) else (if ((rd_T34 l0 x5_1).f2.f0) = 6 then (if ((rd_T34 l0 x5_1).f2.f1) = 1 then ((glacisref05_Tail.f kj12 ((rd_T34 l0 x5_1).f2.f3)).bind fun bt588 => (if (x4_1 ++ (⟨#[44, 32]⟩ : ByteArray)).size + t579.size ≤ 9223372036854775807 then (if ((x4_1 ++ (⟨#[44, 32]⟩ : ByteArray)) ++ t579).size + bt588.1.size ≤ 9223372036854775807 then (glacisref06_DictText.l0 kj12 l0 (((x4_1 ++ (⟨#[44, 32]⟩ : ByteArray)) ++ t579) ++ bt588.1) (wrap64 (x5_1 + 1))) else (none)) else (none))) else (if (x4_1 ++ (⟨#[44, 32]⟩ : ByteArray)).size + t579.size ≤ 9223372036854775807 then (if ((x4_1 ++ (⟨#[44, 32]⟩ : ByteArray)) ++ t579).size + 1 ≤ 9223372036854775807 then (if (((x4_1 ++ (⟨#[44, 32]⟩ : ByteArray)) ++ t579) ++ (⟨#[61]⟩ : ByteArray)).size + t576.size ≤ 9223372036854775807 then (glacisref06_DictText.l0 kj12 l0 ((((x4_1 ++ (⟨#[44, 32]⟩ : ByteArray)) ++ t579) ++ (⟨#[61]⟩ : ByteArray)) ++ t576) (wrap64 (x5_1 + 1))) else (none)) else (none)) else (none))) else (if (x4_1 ++ (⟨#[44, 32]⟩ : ByteArray)).size + t579.size ≤ 9223372036854775807 then (if ((x4_1 ++ (⟨#[44, 32]⟩ : ByteArray)) ++ t579).size + 1 ≤ 9223372036854775807 then (if (((x4_1 ++ (⟨#[44, 32]⟩ : ByteArray)) ++ t579) ++ (⟨#[61]⟩ : ByteArray)).size + t576.size ≤ 9223372036854775807 then (glacisref06_DictText.l0 kj12 l0 ((((x4_1 ++ (⟨#[44, 32]⟩ : ByteArray)) ++ t579) ++ (⟨#[61]⟩ : ByteArray)) ++ t576) (wrap64 (x5_1 + 1))) else (none)) else (none)) else (none)))) = some (r1, r2) := by rw [← hbq21] at H; exact H
        have Nbq21 := Aside0.mk hbq21
        clear hbq21
        by_cases c22 : (bq21 = true)
        ·subst c22
         rw [if_pos rfl] at H
         replace H := ifs_ H; obtain ⟨c23, H⟩ := H
         have c23b0 := eq_true c23
         have c23b1 := decide_eq_true c23
         try have c23b2 : (9223372036854775807 < (x4_1 ++ (⟨#[44, 32]⟩ : ByteArray)).size + t579.size) = False := eq_false (Nat.not_lt.2 c23)
         try (have c23d : (9223372036854775807 < x4_1.size + 2 + t579.size) = False := eq_false (by have h_ := c23; simp only [ByteArray.size_append] at h_; exact Nat.not_lt.2 h_))
         replace H := ifs_ H; obtain ⟨c24, H⟩ := H
         have c24b0 := eq_true c24
         have c24b1 := decide_eq_true c24
         try have c24b2 : (9223372036854775807 < ((x4_1 ++ (⟨#[44, 32]⟩ : ByteArray)) ++ t579).size + 1) = False := eq_false (Nat.not_lt.2 c24)
         try (have c24d : (9223372036854775807 < x4_1.size + 2 + t579.size + 1) = False := eq_false (by have h_ := c24; simp only [ByteArray.size_append] at h_; exact Nat.not_lt.2 h_))
         replace H := ifs_ H; obtain ⟨c25, H⟩ := H
         have c25b0 := eq_true c25
         have c25b1 := decide_eq_true c25
         try have c25b2 : (9223372036854775807 < (((x4_1 ++ (⟨#[44, 32]⟩ : ByteArray)) ++ t579) ++ (⟨#[61]⟩ : ByteArray)).size + t576.size) = False := eq_false (Nat.not_lt.2 c25)
         try (have c25d : (9223372036854775807 < x4_1.size + 2 + t579.size + 1 + t576.size) = False := eq_false (by have h_ := c25; simp only [ByteArray.size_append] at h_; exact Nat.not_lt.2 h_))
         have H' := Aside0.mk H
         clear H
         have p584 : 0 ≤ (x5_1 : Int) := of_decide_eq_true (by assumption)
         have q584 : x5_1 < (l0.length : Int) := of_decide_eq_true (by assumption)
         obtain ⟨ad584, A584_5, c584_5, A584_6, c584_6, A584_7, c584_7, e584, hx584_0, hx584_1, hx584_2, hx584_3, hx584_4, hx584_5, hx584_6, hx584_7, hl584_5, hi584_5, hl584_6, hi584_6, hl584_7, hi584_7⟩ := at_T34 HR0.out x5_1 p584 q584
         (try rw [← Nbq21.out] at hx584_1)
         obtain rfl : ad575 = ad584 := (by injection e584)
         obtain ⟨hx584_0, hx584_1, hx584_2, hx584_3, hx584_4, hx584_5, hx584_6, hx584_7⟩ := lb8_ HB.out hx584_0 hx584_1 hx584_2 hx584_3 hx584_4 hx584_5 hx584_6 hx584_7
         have HR584_5 := Aside0.mk hi584_5
         have HC584_5 := Aside0.mk hl584_5
         clear hi584_5 hl584_5
         have HR584_6 := Aside0.mk hi584_6
         have HC584_6 := Aside0.mk hl584_6
         clear hi584_6 hl584_6
         have HR584_7 := Aside0.mk hi584_7
         have HC584_7 := Aside0.mk hl584_7
         clear hi584_7 hl584_7
         replace p584 := eq_true p584
         replace q584 := eq_true q584
         go_wp2
         repeat (go_quiet (fail); try go_wp2)
         go_roundg kj12
         case measure => have := HK1.out; have := HK2.out; have := HJ12.out; omega
         case rel => exact ⟨((((x4_1 ++ (⟨#[44, 32]⟩ : ByteArray)) ++ t579) ++ (⟨#[61]⟩ : ByteArray)) ++ t576), (wrap64 (x5_1 + 1)), (by first | rfl | simp [*]), (by first | rfl | simp [*]), H', ⟨by have := HK1.out; have := HK2.out; have := HJ12.out; omega⟩, ⟨bl_ HB.out⟩⟩
        replace c22 := Bool.eq_false_iff.mpr c22
        subst c22
        rw [if_neg (show ¬ (false = true) by decide)] at H
        by_cases c26 : ((rd_T34 l0 x5_1).f2.f0) = 6
        rotate_left
        ·rw [if_neg c26] at H
         obtain ⟨c26b0, c26b1⟩ := eF_ c26
         replace H := ifs_ H; obtain ⟨c35, H⟩ := H
         have c35b0 := eq_true c35
         have c35b1 := decide_eq_true c35
         try have c35b2 : (9223372036854775807 < (x4_1 ++ (⟨#[44, 32]⟩ : ByteArray)).size + t579.size) = False := eq_false (Nat.not_lt.2 c35)
         try (have c35d : (9223372036854775807 < x4_1.size + 2 + t579.size) = False := eq_false (by have h_ := c35; simp only [ByteArray.size_append] at h_; exact Nat.not_lt.2 h_))
         replace H := ifs_ H; obtain ⟨c36, H⟩ := H
         have c36b0 := eq_true c36
         have c36b1 := decide_eq_true c36
         try have c36b2 : (9223372036854775807 < ((x4_1 ++ (⟨#[44, 32]⟩ : ByteArray)) ++ t579).size + 1) = False := eq_false (Nat.not_lt.2 c36)
         try (have c36d : (9223372036854775807 < x4_1.size + 2 + t579.size + 1) = False := eq_false (by have h_ := c36; simp only [ByteArray.size_append] at h_; exact Nat.not_lt.2 h_))
         replace H := ifs_ H; obtain ⟨c37, H⟩ := H
         have c37b0 := eq_true c37
         have c37b1 := decide_eq_true c37
         try have c37b2 : (9223372036854775807 < (((x4_1 ++ (⟨#[44, 32]⟩ : ByteArray)) ++ t579) ++ (⟨#[61]⟩ : ByteArray)).size + t576.size) = False := eq_false (Nat.not_lt.2 c37)
         try (have c37d : (9223372036854775807 < x4_1.size + 2 + t579.size + 1 + t576.size) = False := eq_false (by have h_ := c37; simp only [ByteArray.size_append] at h_; exact Nat.not_lt.2 h_))
         have H' := Aside0.mk H
         clear H
         have p584 : 0 ≤ (x5_1 : Int) := of_decide_eq_true (by assumption)
         have q584 : x5_1 < (l0.length : Int) := of_decide_eq_true (by assumption)
         obtain ⟨ad584, A584_5, c584_5, A584_6, c584_6, A584_7, c584_7, e584, hx584_0, hx584_1, hx584_2, hx584_3, hx584_4, hx584_5, hx584_6, hx584_7, hl584_5, hi584_5, hl584_6, hi584_6, hl584_7, hi584_7⟩ := at_T34 HR0.out x5_1 p584 q584
         (try rw [← Nbq21.out] at hx584_1)
         obtain rfl : ad575 = ad584 := (by injection e584)
         obtain ⟨hx584_0, hx584_1, hx584_2, hx584_3, hx584_4, hx584_5, hx584_6, hx584_7⟩ := lb8_ HB.out hx584_0 hx584_1 hx584_2 hx584_3 hx584_4 hx584_5 hx584_6 hx584_7
         have HR584_5 := Aside0.mk hi584_5
         have HC584_5 := Aside0.mk hl584_5
         clear hi584_5 hl584_5
         have HR584_6 := Aside0.mk hi584_6
         have HC584_6 := Aside0.mk hl584_6
         clear hi584_6 hl584_6
         have HR584_7 := Aside0.mk hi584_7
         have HC584_7 := Aside0.mk hl584_7
         clear hi584_7 hl584_7
         replace p584 := eq_true p584
         replace q584 := eq_true q584
         have p585 : 0 ≤ (x5_1 : Int) := of_decide_eq_true (by assumption)
         have q585 : x5_1 < (l0.length : Int) := of_decide_eq_true (by assumption)
         obtain ⟨ad585, A585_5, c585_5, A585_6, c585_6, A585_7, c585_7, e585, hx585_0, hx585_1, hx585_2, hx585_3, hx585_4, hx585_5, hx585_6, hx585_7, hl585_5, hi585_5, hl585_6, hi585_6, hl585_7, hi585_7⟩ := at_T34 HR0.out x5_1 p585 q585
         (try rw [← Nbq21.out] at hx585_1)
         obtain rfl : ad575 = ad585 := (by injection e585)
         obtain ⟨hx585_0, hx585_1, hx585_2, hx585_3, hx585_4, hx585_5, hx585_6, hx585_7⟩ := lb8_ HB.out hx585_0 hx585_1 hx585_2 hx585_3 hx585_4 hx585_5 hx585_6 hx585_7
         have HR585_5 := Aside0.mk hi585_5
         have HC585_5 := Aside0.mk hl585_5
         clear hi585_5 hl585_5
         have HR585_6 := Aside0.mk hi585_6
         have HC585_6 := Aside0.mk hl585_6
         clear hi585_6 hl585_6
         have HR585_7 := Aside0.mk hi585_7
         have HC585_7 := Aside0.mk hl585_7
         clear hi585_7 hl585_7
         replace p585 := eq_true p585
         replace q585 := eq_true q585
         have ea_ := Option.some.inj (hx584_5.symm.trans hx585_5)
         injection ea_ with ea_ en_ ec_
         subst ea_
         subst ec_
         clear en_
         have ea_ := Option.some.inj (hx584_6.symm.trans hx585_6)
         injection ea_ with ea_ en_ ec_
         subst ea_
         subst ec_
         clear en_
         have ea_ := Option.some.inj (hx584_7.symm.trans hx585_7)
         injection ea_ with ea_ en_ ec_
         subst ea_
         subst ec_
         clear en_
         go_wp2
         repeat (go_quiet (fail); try go_wp2)
         go_roundg kj12
         case measure => have := HK1.out; have := HK2.out; have := HJ12.out; omega
         case rel => exact ⟨((((x4_1 ++ (⟨#[44, 32]⟩ : ByteArray)) ++ t579) ++ (⟨#[61]⟩ : ByteArray)) ++ t576), (wrap64 (x5_1 + 1)), (by first | rfl | simp [*]), (by first | rfl | simp [*]), H', ⟨by have := HK1.out; have := HK2.out; have := HJ12.out; omega⟩, ⟨bl_ HB.out⟩⟩
        rw [if_pos c26] at H
        obtain ⟨c26b0, c26b1⟩ := eT_ c26
        clear c26
        by_cases c27 : ((rd_T34 l0 x5_1).f2.f1) = 1
        rotate_left
        ·rw [if_neg c27] at H
         obtain ⟨c27b0, c27b1⟩ := eF_ c27
         replace H := ifs_ H; obtain ⟨c32, H⟩ := H
         have c32b0 := eq_true c32
         have c32b1 := decide_eq_true c32
         try have c32b2 : (9223372036854775807 < (x4_1 ++ (⟨#[44, 32]⟩ : ByteArray)).size + t579.size) = False := eq_false (Nat.not_lt.2 c32)
         try (have c32d : (9223372036854775807 < x4_1.size + 2 + t579.size) = False := eq_false (by have h_ := c32; simp only [ByteArray.size_append] at h_; exact Nat.not_lt.2 h_))
         replace H := ifs_ H; obtain ⟨c33, H⟩ := H
         have c33b0 := eq_true c33
         have c33b1 := decide_eq_true c33
         try have c33b2 : (9223372036854775807 < ((x4_1 ++ (⟨#[44, 32]⟩ : ByteArray)) ++ t579).size + 1) = False := eq_false (Nat.not_lt.2 c33)
         try (have c33d : (9223372036854775807 < x4_1.size + 2 + t579.size + 1) = False := eq_false (by have h_ := c33; simp only [ByteArray.size_append] at h_; exact Nat.not_lt.2 h_))
         replace H := ifs_ H; obtain ⟨c34, H⟩ := H
         have c34b0 := eq_true c34
         have c34b1 := decide_eq_true c34
         try have c34b2 : (9223372036854775807 < (((x4_1 ++ (⟨#[44, 32]⟩ : ByteArray)) ++ t579) ++ (⟨#[61]⟩ : ByteArray)).size + t576.size) = False := eq_false (Nat.not_lt.2 c34)
         try (have c34d : (9223372036854775807 < x4_1.size + 2 + t579.size + 1 + t576.size) = False := eq_false (by have h_ := c34; simp only [ByteArray.size_append] at h_; exact Nat.not_lt.2 h_))
         have H' := Aside0.mk H
         clear H
         have p584 : 0 ≤ (x5_1 : Int) := of_decide_eq_true (by assumption)
         have q584 : x5_1 < (l0.length : Int) := of_decide_eq_true (by assumption)
         obtain ⟨ad584, A584_5, c584_5, A584_6, c584_6, A584_7, c584_7, e584, hx584_0, hx584_1, hx584_2, hx584_3, hx584_4, hx584_5, hx584_6, hx584_7, hl584_5, hi584_5, hl584_6, hi584_6, hl584_7, hi584_7⟩ := at_T34 HR0.out x5_1 p584 q584
         (try rw [← Nbq21.out] at hx584_1)
         obtain rfl : ad575 = ad584 := (by injection e584)
         obtain ⟨hx584_0, hx584_1, hx584_2, hx584_3, hx584_4, hx584_5, hx584_6, hx584_7⟩ := lb8_ HB.out hx584_0 hx584_1 hx584_2 hx584_3 hx584_4 hx584_5 hx584_6 hx584_7
         have HR584_5 := Aside0.mk hi584_5
         have HC584_5 := Aside0.mk hl584_5
         clear hi584_5 hl584_5
         have HR584_6 := Aside0.mk hi584_6
         have HC584_6 := Aside0.mk hl584_6
         clear hi584_6 hl584_6
         have HR584_7 := Aside0.mk hi584_7
         have HC584_7 := Aside0.mk hl584_7
         clear hi584_7 hl584_7
         replace p584 := eq_true p584
         replace q584 := eq_true q584
         have p585 : 0 ≤ (x5_1 : Int) := of_decide_eq_true (by assumption)
         have q585 : x5_1 < (l0.length : Int) := of_decide_eq_true (by assumption)
         obtain ⟨ad585, A585_5, c585_5, A585_6, c585_6, A585_7, c585_7, e585, hx585_0, hx585_1, hx585_2, hx585_3, hx585_4, hx585_5, hx585_6, hx585_7, hl585_5, hi585_5, hl585_6, hi585_6, hl585_7, hi585_7⟩ := at_T34 HR0.out x5_1 p585 q585
         (try rw [← Nbq21.out] at hx585_1)
         obtain rfl : ad575 = ad585 := (by injection e585)
         obtain ⟨hx585_0, hx585_1, hx585_2, hx585_3, hx585_4, hx585_5, hx585_6, hx585_7⟩ := lb8_ HB.out hx585_0 hx585_1 hx585_2 hx585_3 hx585_4 hx585_5 hx585_6 hx585_7
         have HR585_5 := Aside0.mk hi585_5
         have HC585_5 := Aside0.mk hl585_5
         clear hi585_5 hl585_5
         have HR585_6 := Aside0.mk hi585_6
         have HC585_6 := Aside0.mk hl585_6
         clear hi585_6 hl585_6
         have HR585_7 := Aside0.mk hi585_7
         have HC585_7 := Aside0.mk hl585_7
         clear hi585_7 hl585_7
         replace p585 := eq_true p585
         replace q585 := eq_true q585
         have ea_ := Option.some.inj (hx584_5.symm.trans hx585_5)
         injection ea_ with ea_ en_ ec_
         subst ea_
         subst ec_
         clear en_
         have ea_ := Option.some.inj (hx584_6.symm.trans hx585_6)
         injection ea_ with ea_ en_ ec_
         subst ea_
         subst ec_
         clear en_
         have ea_ := Option.some.inj (hx584_7.symm.trans hx585_7)
         injection ea_ with ea_ en_ ec_
         subst ea_
         subst ec_
         clear en_
         have p586 : 0 ≤ (x5_1 : Int) := of_decide_eq_true (by assumption)
         have q586 : x5_1 < (l0.length : Int) := of_decide_eq_true (by assumption)
         obtain ⟨ad586, A586_5, c586_5, A586_6, c586_6, A586_7, c586_7, e586, hx586_0, hx586_1, hx586_2, hx586_3, hx586_4, hx586_5, hx586_6, hx586_7, hl586_5, hi586_5, hl586_6, hi586_6, hl586_7, hi586_7⟩ := at_T34 HR0.out x5_1 p586 q586
         (try rw [← Nbq21.out] at hx586_1)
         obtain rfl : ad575 = ad586 := (by injection e586)
         obtain ⟨hx586_0, hx586_1, hx586_2, hx586_3, hx586_4, hx586_5, hx586_6, hx586_7⟩ := lb8_ HB.out hx586_0 hx586_1 hx586_2 hx586_3 hx586_4 hx586_5 hx586_6 hx586_7
         have HR586_5 := Aside0.mk hi586_5
         have HC586_5 := Aside0.mk hl586_5
         clear hi586_5 hl586_5
         have HR586_6 := Aside0.mk hi586_6
         have HC586_6 := Aside0.mk hl586_6
         clear hi586_6 hl586_6
         have HR586_7 := Aside0.mk hi586_7
         have HC586_7 := Aside0.mk hl586_7
         clear hi586_7 hl586_7
         replace p586 := eq_true p586
         replace q586 := eq_true q586
         have ea_ := Option.some.inj (hx584_5.symm.trans hx586_5)
         injection ea_ with ea_ en_ ec_
         subst ea_
         subst ec_
         clear en_
         have ea_ := Option.some.inj (hx584_6.symm.trans hx586_6)
         injection ea_ with ea_ en_ ec_
         subst ea_
         subst ec_
         clear en_
         have ea_ := Option.some.inj (hx584_7.symm.trans hx586_7)
         injection ea_ with ea_ en_ ec_
         subst ea_
         subst ec_
         clear en_
         go_wp2
         repeat (go_quiet (fail); try go_wp2)
         go_roundg kj12
         case measure => have := HK1.out; have := HK2.out; have := HJ12.out; omega
         case rel => exact ⟨((((x4_1 ++ (⟨#[44, 32]⟩ : ByteArray)) ++ t579) ++ (⟨#[61]⟩ : ByteArray)) ++ t576), (wrap64 (x5_1 + 1)), (by first | rfl | simp [*]), (by first | rfl | simp [*]), H', ⟨by have := HK1.out; have := HK2.out; have := HJ12.out; omega⟩, ⟨bl_ HB.out⟩⟩
        rw [if_pos c27] at H
        obtain ⟨c27b0, c27b1⟩ := eT_ c27
        clear c27
        replace H := Option.bind_eq_some_iff.mp H
        obtain ⟨⟨t588, t589⟩, A280, H⟩ := H
        (try dsimp only at H)
        have A28 := Aside0.mk A280
        clear A280
        replace H := ifs_ H; obtain ⟨c29, H⟩ := H
        have c29b0 := eq_true c29
        have c29b1 := decide_eq_true c29
        try have c29b2 : (9223372036854775807 < (x4_1 ++ (⟨#[44, 32]⟩ : ByteArray)).size + t579.size) = False := eq_false (Nat.not_lt.2 c29)
        try (have c29d : (9223372036854775807 < x4_1.size + 2 + t579.size) = False := eq_false (by have h_ := c29; simp only [ByteArray.size_append] at h_; exact Nat.not_lt.2 h_))
        replace H := ifs_ H; obtain ⟨c30, H⟩ := H
        have c30b0 := eq_true c30
        have c30b1 := decide_eq_true c30
        try have c30b2 : (9223372036854775807 < ((x4_1 ++ (⟨#[44, 32]⟩ : ByteArray)) ++ t579).size + t588.size) = False := eq_false (Nat.not_lt.2 c30)
        try (have c30d : (9223372036854775807 < x4_1.size + 2 + t579.size + t588.size) = False := eq_false (by have h_ := c30; simp only [ByteArray.size_append] at h_; exact Nat.not_lt.2 h_))
        have H' := Aside0.mk H
        clear H
        have p584 : 0 ≤ (x5_1 : Int) := of_decide_eq_true (by assumption)
        have q584 : x5_1 < (l0.length : Int) := of_decide_eq_true (by assumption)
        obtain ⟨ad584, A584_5, c584_5, A584_6, c584_6, A584_7, c584_7, e584, hx584_0, hx584_1, hx584_2, hx584_3, hx584_4, hx584_5, hx584_6, hx584_7, hl584_5, hi584_5, hl584_6, hi584_6, hl584_7, hi584_7⟩ := at_T34 HR0.out x5_1 p584 q584
        (try rw [← Nbq21.out] at hx584_1)
        obtain rfl : ad575 = ad584 := (by injection e584)
        obtain ⟨hx584_0, hx584_1, hx584_2, hx584_3, hx584_4, hx584_5, hx584_6, hx584_7⟩ := lb8_ HB.out hx584_0 hx584_1 hx584_2 hx584_3 hx584_4 hx584_5 hx584_6 hx584_7
        have HR584_5 := Aside0.mk hi584_5
        have HC584_5 := Aside0.mk hl584_5
        clear hi584_5 hl584_5
        have HR584_6 := Aside0.mk hi584_6
        have HC584_6 := Aside0.mk hl584_6
        clear hi584_6 hl584_6
        have HR584_7 := Aside0.mk hi584_7
        have HC584_7 := Aside0.mk hl584_7
        clear hi584_7 hl584_7
        replace p584 := eq_true p584
        replace q584 := eq_true q584
        have p585 : 0 ≤ (x5_1 : Int) := of_decide_eq_true (by assumption)
        have q585 : x5_1 < (l0.length : Int) := of_decide_eq_true (by assumption)
        obtain ⟨ad585, A585_5, c585_5, A585_6, c585_6, A585_7, c585_7, e585, hx585_0, hx585_1, hx585_2, hx585_3, hx585_4, hx585_5, hx585_6, hx585_7, hl585_5, hi585_5, hl585_6, hi585_6, hl585_7, hi585_7⟩ := at_T34 HR0.out x5_1 p585 q585
        (try rw [← Nbq21.out] at hx585_1)
        obtain rfl : ad575 = ad585 := (by injection e585)
        obtain ⟨hx585_0, hx585_1, hx585_2, hx585_3, hx585_4, hx585_5, hx585_6, hx585_7⟩ := lb8_ HB.out hx585_0 hx585_1 hx585_2 hx585_3 hx585_4 hx585_5 hx585_6 hx585_7
        have HR585_5 := Aside0.mk hi585_5
        have HC585_5 := Aside0.mk hl585_5
        clear hi585_5 hl585_5
        have HR585_6 := Aside0.mk hi585_6
        have HC585_6 := Aside0.mk hl585_6
        clear hi585_6 hl585_6
        have HR585_7 := Aside0.mk hi585_7
        have HC585_7 := Aside0.mk hl585_7
        clear hi585_7 hl585_7
        replace p585 := eq_true p585
        replace q585 := eq_true q585
        have ea_ := Option.some.inj (hx584_5.symm.trans hx585_5)
        injection ea_ with ea_ en_ ec_
        subst ea_
        subst ec_
        clear en_
        have ea_ := Option.some.inj (hx584_6.symm.trans hx585_6)
        injection ea_ with ea_ en_ ec_
        subst ea_
        subst ec_
        clear en_
        have ea_ := Option.some.inj (hx584_7.symm.trans hx585_7)
        injection ea_ with ea_ en_ ec_
        subst ea_
        subst ec_
        clear en_
        have p586 : 0 ≤ (x5_1 : Int) := of_decide_eq_true (by assumption)
        have q586 : x5_1 < (l0.length : Int) := of_decide_eq_true (by assumption)
        obtain ⟨ad586, A586_5, c586_5, A586_6, c586_6, A586_7, c586_7, e586, hx586_0, hx586_1, hx586_2, hx586_3, hx586_4, hx586_5, hx586_6, hx586_7, hl586_5, hi586_5, hl586_6, hi586_6, hl586_7, hi586_7⟩ := at_T34 HR0.out x5_1 p586 q586
        (try rw [← Nbq21.out] at hx586_1)
        obtain rfl : ad575 = ad586 := (by injection e586)
        obtain ⟨hx586_0, hx586_1, hx586_2, hx586_3, hx586_4, hx586_5, hx586_6, hx586_7⟩ := lb8_ HB.out hx586_0 hx586_1 hx586_2 hx586_3 hx586_4 hx586_5 hx586_6 hx586_7
        have HR586_5 := Aside0.mk hi586_5
        have HC586_5 := Aside0.mk hl586_5
        clear hi586_5 hl586_5
        have HR586_6 := Aside0.mk hi586_6
        have HC586_6 := Aside0.mk hl586_6
        clear hi586_6 hl586_6
        have HR586_7 := Aside0.mk hi586_7
        have HC586_7 := Aside0.mk hl586_7
        clear hi586_7 hl586_7
        replace p586 := eq_true p586
        replace q586 := eq_true q586
        have ea_ := Option.some.inj (hx584_5.symm.trans hx586_5)
        injection ea_ with ea_ en_ ec_
        subst ea_
        subst ec_
        clear en_
        have ea_ := Option.some.inj (hx584_6.symm.trans hx586_6)
        injection ea_ with ea_ en_ ec_
        subst ea_
        subst ec_
        clear en_
        have ea_ := Option.some.inj (hx584_7.symm.trans hx586_7)
        injection ea_ with ea_ en_ ec_
        subst ea_
        subst ec_
        clear en_
        have p587 : 0 ≤ (x5_1 : Int) := of_decide_eq_true (by assumption)
        have q587 : x5_1 < (l0.length : Int) := of_decide_eq_true (by assumption)
        obtain ⟨ad587, A587_5, c587_5, A587_6, c587_6, A587_7, c587_7, e587, hx587_0, hx587_1, hx587_2, hx587_3, hx587_4, hx587_5, hx587_6, hx587_7, hl587_5, hi587_5, hl587_6, hi587_6, hl587_7, hi587_7⟩ := at_T34 HR0.out x5_1 p587 q587
        (try rw [← Nbq21.out] at hx587_1)
        obtain rfl : ad575 = ad587 := (by injection e587)
        obtain ⟨hx587_0, hx587_1, hx587_2, hx587_3, hx587_4, hx587_5, hx587_6, hx587_7⟩ := lb8_ HB.out hx587_0 hx587_1 hx587_2 hx587_3 hx587_4 hx587_5 hx587_6 hx587_7
        have HR587_5 := Aside0.mk hi587_5
        have HC587_5 := Aside0.mk hl587_5
        clear hi587_5 hl587_5
        have HR587_6 := Aside0.mk hi587_6
        have HC587_6 := Aside0.mk hl587_6
        clear hi587_6 hl587_6
        have HR587_7 := Aside0.mk hi587_7
        have HC587_7 := Aside0.mk hl587_7
        clear hi587_7 hl587_7
        replace p587 := eq_true p587
        replace q587 := eq_true q587
        have ea_ := Option.some.inj (hx584_5.symm.trans hx587_5)
        injection ea_ with ea_ en_ ec_
        subst ea_
        subst ec_
        clear en_
        have ea_ := Option.some.inj (hx584_6.symm.trans hx587_6)
        injection ea_ with ea_ en_ ec_
        subst ea_
        subst ec_
        clear en_
        have ea_ := Option.some.inj (hx584_7.symm.trans hx587_7)
        injection ea_ with ea_ en_ ec_
        subst ea_
        subst ec_
        clear en_
        go_wp2_with (first | (go_at_call 37; (with_reducible refine (glacisref05_Tail.calls kj12 _ _ ((rd_T34 l0 x5_1).f2.f3) t588 t589 _ (tab_ hT_ ?hTab) ?side1 ?side2 A28.out).mono ?_); (case hTab => exact (bl_ HB.out)); (case side1 => repeat (first | exact (Kd.C_below HR587_5.out HB.out) | (with_reducible refine Kd.C_alloc ?_ _) | (with_reducible refine Kd.C_drewN ?_ _) | (with_reducible refine Kd.C_drew ?_))); (case side2 => exact HC587_5.out); rintro e w31 ⟨rfl, hb⟩; replace HB := bs_ HB hb; (try clear hb)))
        repeat (go_quiet (first | (go_at_call 37; (with_reducible refine (glacisref05_Tail.calls kj12 _ _ ((rd_T34 l0 x5_1).f2.f3) t588 t589 _ (tab_ hT_ ?hTab) ?side1 ?side2 A28.out).mono ?_); (case hTab => exact (bl_ HB.out)); (case side1 => repeat (first | exact (Kd.C_below HR587_5.out HB.out) | (with_reducible refine Kd.C_alloc ?_ _) | (with_reducible refine Kd.C_drewN ?_ _) | (with_reducible refine Kd.C_drew ?_))); (case side2 => exact HC587_5.out); rintro e w31 ⟨rfl, hb⟩; replace HB := bs_ HB hb; (try clear hb))); try go_wp2_with (first | (go_at_call 37; (with_reducible refine (glacisref05_Tail.calls kj12 _ _ ((rd_T34 l0 x5_1).f2.f3) t588 t589 _ (tab_ hT_ ?hTab) ?side1 ?side2 A28.out).mono ?_); (case hTab => exact (bl_ HB.out)); (case side1 => repeat (first | exact (Kd.C_below HR587_5.out HB.out) | (with_reducible refine Kd.C_alloc ?_ _) | (with_reducible refine Kd.C_drewN ?_ _) | (with_reducible refine Kd.C_drew ?_))); (case side2 => exact HC587_5.out); rintro e w31 ⟨rfl, hb⟩; replace HB := bs_ HB hb; (try clear hb))))
        go_roundg kj12
        case measure => have := HK1.out; have := HK2.out; have := HJ12.out; omega
        case rel => exact ⟨(((x4_1 ++ (⟨#[44, 32]⟩ : ByteArray)) ++ t579) ++ t588), (wrap64 (x5_1 + 1)), (by first | rfl | simp [*]), (by first | rfl | simp [*]), H', ⟨by have := HK1.out; have := HK2.out; have := HJ12.out; omega⟩, ⟨bl_ HB.out⟩⟩
       rw [if_neg c17] at H
       have c17b0 : decide (0 < x5_1) = false := decide_eq_false c17
       clear c17
       replace H := ifs_ H; obtain ⟨c38, H⟩ := H
       have c38b0 := decide_eq_true c38
       clear c38
       replace H := ifs_ H; obtain ⟨c39, H⟩ := H
       have c39b0 := decide_eq_true c39
       clear c39
       obtain ⟨bq40, hbq40⟩ : ∃ b_ : Bool, b_ = ((rd_T34 l0 x5_1).f1) := ⟨_, rfl⟩
       replace H : (if (bq40 = true) then (if x4_1.size + t579.size ≤ 9223372036854775807 then (if (x4_1 ++ t579).size + 1 ≤ 9223372036854775807 then (if ((x4_1 ++ t579) ++ (⟨#[61]⟩ : ByteArray)).size + t576.size ≤ 9223372036854775807 then (glacisref06_DictText.l0 kj12 l0 (((x4_1 ++ t579) ++ (⟨#[61]⟩ : ByteArray)) ++ t576) (wrap64 (x5_1 + 1))) else (none)) else (none)) else (none)) else (if ((rd_T34 l0 x5_1).f2.f0) = 6 then (if ((rd_T34 l0 x5_1).f2.f1) = 1 then ((glacisref05_Tail.f kj12 ((rd_T34 l0 x5_1).f2.f3)).bind fun bt594 => (if x4_1.size + t579.size ≤ 9223372036854775807 then (if (x4_1 ++ t579).size + bt594.1.size ≤ 9223372036854775807 then (glacisref06_DictText.l0 kj12 l0 ((x4_1 ++ t579) ++ bt594.1) (wrap64 (x5_1 + 1))) else (none)) else (none))) else (if x4_1.size + t579.size ≤ 9223372036854775807 then (if (x4_1 ++ t579).size + 1 ≤ 9223372036854775807 then (if ((x4_1 ++ t579) ++ (⟨#[61]⟩ : ByteArray)).size + t576.size ≤ 9223372036854775807 then (glacisref06_DictText.l0 kj12 l0 (((x4_1 ++ t579) ++ (⟨#[61]⟩ : ByteArray)) ++ t576) (wrap64 (x5_1 + 1))) else (none)) else (none)) else (none))) else (if x4_1.size + t579.size ≤ 9223372036854775807 then (if (x4_1 ++ t579).size + 1 ≤ 9223372036854775807 then (if ((x4_1 ++ t579) ++ (⟨#[61]⟩ : ByteArray)).size + t576.size ≤ 9223372036854775807 then (glacisref06_DictText.l0 kj12 l0 (((x4_1 ++ t579) ++ (⟨#[61]⟩ : ByteArray)) ++ t576) (wrap64 (x5_1 + 1))) else (none)) else (none)) else (none)))) = some (r1, r2) := by rw [← hbq40] at H; exact H
       have Nbq40 := Aside0.mk hbq40
       clear hbq40
       by_cases c41 : (bq40 = true)
       ·subst c41
        rw [if_pos rfl] at H
        replace H := ifs_ H; obtain ⟨c42, H⟩ := H
        have c42b0 := eq_true c42
        have c42b1 := decide_eq_true c42
        try have c42b2 : (9223372036854775807 < x4_1.size + t579.size) = False := eq_false (Nat.not_lt.2 c42)
        replace H := ifs_ H; obtain ⟨c43, H⟩ := H
        have c43b0 := eq_true c43
        have c43b1 := decide_eq_true c43
        try have c43b2 : (9223372036854775807 < (x4_1 ++ t579).size + 1) = False := eq_false (Nat.not_lt.2 c43)
        try (have c43d : (9223372036854775807 < x4_1.size + t579.size + 1) = False := eq_false (by have h_ := c43; simp only [ByteArray.size_append] at h_; exact Nat.not_lt.2 h_))
        replace H := ifs_ H; obtain ⟨c44, H⟩ := H
        have c44b0 := eq_true c44
        have c44b1 := decide_eq_true c44
        try have c44b2 : (9223372036854775807 < ((x4_1 ++ t579) ++ (⟨#[61]⟩ : ByteArray)).size + t576.size) = False := eq_false (Nat.not_lt.2 c44)
        try (have c44d : (9223372036854775807 < x4_1.size + t579.size + 1 + t576.size) = False := eq_false (by have h_ := c44; simp only [ByteArray.size_append] at h_; exact Nat.not_lt.2 h_))
        have H' := Aside0.mk H
        clear H
        have p590 : 0 ≤ (x5_1 : Int) := of_decide_eq_true (by assumption)
        have q590 : x5_1 < (l0.length : Int) := of_decide_eq_true (by assumption)
        obtain ⟨ad590, A590_5, c590_5, A590_6, c590_6, A590_7, c590_7, e590, hx590_0, hx590_1, hx590_2, hx590_3, hx590_4, hx590_5, hx590_6, hx590_7, hl590_5, hi590_5, hl590_6, hi590_6, hl590_7, hi590_7⟩ := at_T34 HR0.out x5_1 p590 q590
        (try rw [← Nbq40.out] at hx590_1)
        obtain rfl : ad575 = ad590 := (by injection e590)
        obtain ⟨hx590_0, hx590_1, hx590_2, hx590_3, hx590_4, hx590_5, hx590_6, hx590_7⟩ := lb8_ HB.out hx590_0 hx590_1 hx590_2 hx590_3 hx590_4 hx590_5 hx590_6 hx590_7
        have HR590_5 := Aside0.mk hi590_5
        have HC590_5 := Aside0.mk hl590_5
        clear hi590_5 hl590_5
        have HR590_6 := Aside0.mk hi590_6
        have HC590_6 := Aside0.mk hl590_6
        clear hi590_6 hl590_6
        have HR590_7 := Aside0.mk hi590_7
        have HC590_7 := Aside0.mk hl590_7
        clear hi590_7 hl590_7
        replace p590 := eq_true p590
        replace q590 := eq_true q590
        go_wp2
        repeat (go_quiet (fail); try go_wp2)
        go_roundg kj12
        case measure => have := HK1.out; have := HK2.out; have := HJ12.out; omega
        case rel => exact ⟨(((x4_1 ++ t579) ++ (⟨#[61]⟩ : ByteArray)) ++ t576), (wrap64 (x5_1 + 1)), (by first | rfl | simp [*]), (by first | rfl | simp [*]), H', ⟨by have := HK1.out; have := HK2.out; have := HJ12.out; omega⟩, ⟨bl_ HB.out⟩⟩
       replace c41 := Bool.eq_false_iff.mpr c41
       subst c41
       rw [if_neg (show ¬ (false = true) by decide)] at H
       by_cases c45 : ((rd_T34 l0 x5_1).f2.f0) = 6
       rotate_left
       ·rw [if_neg c45] at H
        obtain ⟨c45b0, c45b1⟩ := eF_ c45
        replace H := ifs_ H; obtain ⟨c54, H⟩ := H
        have c54b0 := eq_true c54
        have c54b1 := decide_eq_true c54
        try have c54b2 : (9223372036854775807 < x4_1.size + t579.size) = False := eq_false (Nat.not_lt.2 c54)
        replace H := ifs_ H; obtain ⟨c55, H⟩ := H
        have c55b0 := eq_true c55
        have c55b1 := decide_eq_true c55
        try have c55b2 : (9223372036854775807 < (x4_1 ++ t579).size + 1) = False := eq_false (Nat.not_lt.2 c55)
        try (have c55d : (9223372036854775807 < x4_1.size + t579.size + 1) = False := eq_false (by have h_ := c55; simp only [ByteArray.size_append] at h_; exact Nat.not_lt.2 h_))
        replace H := ifs_ H; obtain ⟨c56, H⟩ := H
        have c56b0 := eq_true c56
        have c56b1 := decide_eq_true c56
        try have c56b2 : (9223372036854775807 < ((x4_1 ++ t579) ++ (⟨#[61]⟩ : ByteArray)).size + t576.size) = False := eq_false (Nat.not_lt.2 c56)
        try (have c56d : (9223372036854775807 < x4_1.size + t579.size + 1 + t576.size) = False := eq_false (by have h_ := c56; simp only [ByteArray.size_append] at h_; exact Nat.not_lt.2 h_))
        have H' := Aside0.mk H
        clear H
        have p590 : 0 ≤ (x5_1 : Int) := of_decide_eq_true (by assumption)
        have q590 : x5_1 < (l0.length : Int) := of_decide_eq_true (by assumption)
        obtain ⟨ad590, A590_5, c590_5, A590_6, c590_6, A590_7, c590_7, e590, hx590_0, hx590_1, hx590_2, hx590_3, hx590_4, hx590_5, hx590_6, hx590_7, hl590_5, hi590_5, hl590_6, hi590_6, hl590_7, hi590_7⟩ := at_T34 HR0.out x5_1 p590 q590
        (try rw [← Nbq40.out] at hx590_1)
        obtain rfl : ad575 = ad590 := (by injection e590)
        obtain ⟨hx590_0, hx590_1, hx590_2, hx590_3, hx590_4, hx590_5, hx590_6, hx590_7⟩ := lb8_ HB.out hx590_0 hx590_1 hx590_2 hx590_3 hx590_4 hx590_5 hx590_6 hx590_7
        have HR590_5 := Aside0.mk hi590_5
        have HC590_5 := Aside0.mk hl590_5
        clear hi590_5 hl590_5
        have HR590_6 := Aside0.mk hi590_6
        have HC590_6 := Aside0.mk hl590_6
        clear hi590_6 hl590_6
        have HR590_7 := Aside0.mk hi590_7
        have HC590_7 := Aside0.mk hl590_7
        clear hi590_7 hl590_7
        replace p590 := eq_true p590
        replace q590 := eq_true q590
        have p591 : 0 ≤ (x5_1 : Int) := of_decide_eq_true (by assumption)
        have q591 : x5_1 < (l0.length : Int) := of_decide_eq_true (by assumption)
        obtain ⟨ad591, A591_5, c591_5, A591_6, c591_6, A591_7, c591_7, e591, hx591_0, hx591_1, hx591_2, hx591_3, hx591_4, hx591_5, hx591_6, hx591_7, hl591_5, hi591_5, hl591_6, hi591_6, hl591_7, hi591_7⟩ := at_T34 HR0.out x5_1 p591 q591
        (try rw [← Nbq40.out] at hx591_1)
        obtain rfl : ad575 = ad591 := (by injection e591)
        obtain ⟨hx591_0, hx591_1, hx591_2, hx591_3, hx591_4, hx591_5, hx591_6, hx591_7⟩ := lb8_ HB.out hx591_0 hx591_1 hx591_2 hx591_3 hx591_4 hx591_5 hx591_6 hx591_7
        have HR591_5 := Aside0.mk hi591_5
        have HC591_5 := Aside0.mk hl591_5
        clear hi591_5 hl591_5
        have HR591_6 := Aside0.mk hi591_6
        have HC591_6 := Aside0.mk hl591_6
        clear hi591_6 hl591_6
        have HR591_7 := Aside0.mk hi591_7
        have HC591_7 := Aside0.mk hl591_7
        clear hi591_7 hl591_7
        replace p591 := eq_true p591
        replace q591 := eq_true q591
        have ea_ := Option.some.inj (hx590_5.symm.trans hx591_5)
        injection ea_ with ea_ en_ ec_
        subst ea_
        subst ec_
        clear en_
        have ea_ := Option.some.inj (hx590_6.symm.trans hx591_6)
        injection ea_ with ea_ en_ ec_
        subst ea_
        subst ec_
        clear en_
        have ea_ := Option.some.inj (hx590_7.symm.trans hx591_7)
        injection ea_ with ea_ en_ ec_
        subst ea_
        subst ec_
        clear en_
        go_wp2
        repeat (go_quiet (fail); try go_wp2)
        go_roundg kj12
        case measure => have := HK1.out; have := HK2.out; have := HJ12.out; omega
        case rel => exact ⟨(((x4_1 ++ t579) ++ (⟨#[61]⟩ : ByteArray)) ++ t576), (wrap64 (x5_1 + 1)), (by first | rfl | simp [*]), (by first | rfl | simp [*]), H', ⟨by have := HK1.out; have := HK2.out; have := HJ12.out; omega⟩, ⟨bl_ HB.out⟩⟩
       rw [if_pos c45] at H
       obtain ⟨c45b0, c45b1⟩ := eT_ c45
       clear c45
       by_cases c46 : ((rd_T34 l0 x5_1).f2.f1) = 1
       rotate_left
       ·rw [if_neg c46] at H
        obtain ⟨c46b0, c46b1⟩ := eF_ c46
        replace H := ifs_ H; obtain ⟨c51, H⟩ := H
        have c51b0 := eq_true c51
        have c51b1 := decide_eq_true c51
        try have c51b2 : (9223372036854775807 < x4_1.size + t579.size) = False := eq_false (Nat.not_lt.2 c51)
        replace H := ifs_ H; obtain ⟨c52, H⟩ := H
        have c52b0 := eq_true c52
        have c52b1 := decide_eq_true c52
        try have c52b2 : (9223372036854775807 < (x4_1 ++ t579).size + 1) = False := eq_false (Nat.not_lt.2 c52)
        try (have c52d : (9223372036854775807 < x4_1.size + t579.size + 1) = False := eq_false (by have h_ := c52; simp only [ByteArray.size_append] at h_; exact Nat.not_lt.2 h_))
        replace H := ifs_ H; obtain ⟨c53, H⟩ := H
        have c53b0 := eq_true c53
        have c53b1 := decide_eq_true c53
        try have c53b2 : (9223372036854775807 < ((x4_1 ++ t579) ++ (⟨#[61]⟩ : ByteArray)).size + t576.size) = False := eq_false (Nat.not_lt.2 c53)
        try (have c53d : (9223372036854775807 < x4_1.size + t579.size + 1 + t576.size) = False := eq_false (by have h_ := c53; simp only [ByteArray.size_append] at h_; exact Nat.not_lt.2 h_))
        have H' := Aside0.mk H
        clear H
        have p590 : 0 ≤ (x5_1 : Int) := of_decide_eq_true (by assumption)
        have q590 : x5_1 < (l0.length : Int) := of_decide_eq_true (by assumption)
        obtain ⟨ad590, A590_5, c590_5, A590_6, c590_6, A590_7, c590_7, e590, hx590_0, hx590_1, hx590_2, hx590_3, hx590_4, hx590_5, hx590_6, hx590_7, hl590_5, hi590_5, hl590_6, hi590_6, hl590_7, hi590_7⟩ := at_T34 HR0.out x5_1 p590 q590
        (try rw [← Nbq40.out] at hx590_1)
        obtain rfl : ad575 = ad590 := (by injection e590)
        obtain ⟨hx590_0, hx590_1, hx590_2, hx590_3, hx590_4, hx590_5, hx590_6, hx590_7⟩ := lb8_ HB.out hx590_0 hx590_1 hx590_2 hx590_3 hx590_4 hx590_5 hx590_6 hx590_7
        have HR590_5 := Aside0.mk hi590_5
        have HC590_5 := Aside0.mk hl590_5
        clear hi590_5 hl590_5
        have HR590_6 := Aside0.mk hi590_6
        have HC590_6 := Aside0.mk hl590_6
        clear hi590_6 hl590_6
        have HR590_7 := Aside0.mk hi590_7
        have HC590_7 := Aside0.mk hl590_7
        clear hi590_7 hl590_7
        replace p590 := eq_true p590
        replace q590 := eq_true q590
        have p591 : 0 ≤ (x5_1 : Int) := of_decide_eq_true (by assumption)
        have q591 : x5_1 < (l0.length : Int) := of_decide_eq_true (by assumption)
        obtain ⟨ad591, A591_5, c591_5, A591_6, c591_6, A591_7, c591_7, e591, hx591_0, hx591_1, hx591_2, hx591_3, hx591_4, hx591_5, hx591_6, hx591_7, hl591_5, hi591_5, hl591_6, hi591_6, hl591_7, hi591_7⟩ := at_T34 HR0.out x5_1 p591 q591
        (try rw [← Nbq40.out] at hx591_1)
        obtain rfl : ad575 = ad591 := (by injection e591)
        obtain ⟨hx591_0, hx591_1, hx591_2, hx591_3, hx591_4, hx591_5, hx591_6, hx591_7⟩ := lb8_ HB.out hx591_0 hx591_1 hx591_2 hx591_3 hx591_4 hx591_5 hx591_6 hx591_7
        have HR591_5 := Aside0.mk hi591_5
        have HC591_5 := Aside0.mk hl591_5
        clear hi591_5 hl591_5
        have HR591_6 := Aside0.mk hi591_6
        have HC591_6 := Aside0.mk hl591_6
        clear hi591_6 hl591_6
        have HR591_7 := Aside0.mk hi591_7
        have HC591_7 := Aside0.mk hl591_7
        clear hi591_7 hl591_7
        replace p591 := eq_true p591
        replace q591 := eq_true q591
        have ea_ := Option.some.inj (hx590_5.symm.trans hx591_5)
        injection ea_ with ea_ en_ ec_
        subst ea_
        subst ec_
        clear en_
        have ea_ := Option.some.inj (hx590_6.symm.trans hx591_6)
        injection ea_ with ea_ en_ ec_
        subst ea_
        subst ec_
        clear en_
        have ea_ := Option.some.inj (hx590_7.symm.trans hx591_7)
        injection ea_ with ea_ en_ ec_
        subst ea_
        subst ec_
        clear en_
        have p592 : 0 ≤ (x5_1 : Int) := of_decide_eq_true (by assumption)
        have q592 : x5_1 < (l0.length : Int) := of_decide_eq_true (by assumption)
        obtain ⟨ad592, A592_5, c592_5, A592_6, c592_6, A592_7, c592_7, e592, hx592_0, hx592_1, hx592_2, hx592_3, hx592_4, hx592_5, hx592_6, hx592_7, hl592_5, hi592_5, hl592_6, hi592_6, hl592_7, hi592_7⟩ := at_T34 HR0.out x5_1 p592 q592
        (try rw [← Nbq40.out] at hx592_1)
        obtain rfl : ad575 = ad592 := (by injection e592)
        obtain ⟨hx592_0, hx592_1, hx592_2, hx592_3, hx592_4, hx592_5, hx592_6, hx592_7⟩ := lb8_ HB.out hx592_0 hx592_1 hx592_2 hx592_3 hx592_4 hx592_5 hx592_6 hx592_7
        have HR592_5 := Aside0.mk hi592_5
        have HC592_5 := Aside0.mk hl592_5
        clear hi592_5 hl592_5
        have HR592_6 := Aside0.mk hi592_6
        have HC592_6 := Aside0.mk hl592_6
        clear hi592_6 hl592_6
        have HR592_7 := Aside0.mk hi592_7
        have HC592_7 := Aside0.mk hl592_7
        clear hi592_7 hl592_7
        replace p592 := eq_true p592
        replace q592 := eq_true q592
        have ea_ := Option.some.inj (hx590_5.symm.trans hx592_5)
        injection ea_ with ea_ en_ ec_
        subst ea_
        subst ec_
        clear en_
        have ea_ := Option.some.inj (hx590_6.symm.trans hx592_6)
        injection ea_ with ea_ en_ ec_
        subst ea_
        subst ec_
        clear en_
        have ea_ := Option.some.inj (hx590_7.symm.trans hx592_7)
        injection ea_ with ea_ en_ ec_
        subst ea_
        subst ec_
        clear en_
        go_wp2
        repeat (go_quiet (fail); try go_wp2)
        go_roundg kj12
        case measure => have := HK1.out; have := HK2.out; have := HJ12.out; omega
        case rel => exact ⟨(((x4_1 ++ t579) ++ (⟨#[61]⟩ : ByteArray)) ++ t576), (wrap64 (x5_1 + 1)), (by first | rfl | simp [*]), (by first | rfl | simp [*]), H', ⟨by have := HK1.out; have := HK2.out; have := HJ12.out; omega⟩, ⟨bl_ HB.out⟩⟩
       rw [if_pos c46] at H
       obtain ⟨c46b0, c46b1⟩ := eT_ c46
       clear c46
       replace H := Option.bind_eq_some_iff.mp H
       obtain ⟨⟨t594, t595⟩, A470, H⟩ := H
       (try dsimp only at H)
       have A47 := Aside0.mk A470
       clear A470
       replace H := ifs_ H; obtain ⟨c48, H⟩ := H
       have c48b0 := eq_true c48
       have c48b1 := decide_eq_true c48
       try have c48b2 : (9223372036854775807 < x4_1.size + t579.size) = False := eq_false (Nat.not_lt.2 c48)
       replace H := ifs_ H; obtain ⟨c49, H⟩ := H
       have c49b0 := eq_true c49
       have c49b1 := decide_eq_true c49
       try have c49b2 : (9223372036854775807 < (x4_1 ++ t579).size + t594.size) = False := eq_false (Nat.not_lt.2 c49)
       try (have c49d : (9223372036854775807 < x4_1.size + t579.size + t594.size) = False := eq_false (by have h_ := c49; simp only [ByteArray.size_append] at h_; exact Nat.not_lt.2 h_))
       have H' := Aside0.mk H
       clear H
       have p590 : 0 ≤ (x5_1 : Int) := of_decide_eq_true (by assumption)
       have q590 : x5_1 < (l0.length : Int) := of_decide_eq_true (by assumption)
       obtain ⟨ad590, A590_5, c590_5, A590_6, c590_6, A590_7, c590_7, e590, hx590_0, hx590_1, hx590_2, hx590_3, hx590_4, hx590_5, hx590_6, hx590_7, hl590_5, hi590_5, hl590_6, hi590_6, hl590_7, hi590_7⟩ := at_T34 HR0.out x5_1 p590 q590
       (try rw [← Nbq40.out] at hx590_1)
       obtain rfl : ad575 = ad590 := (by injection e590)
       obtain ⟨hx590_0, hx590_1, hx590_2, hx590_3, hx590_4, hx590_5, hx590_6, hx590_7⟩ := lb8_ HB.out hx590_0 hx590_1 hx590_2 hx590_3 hx590_4 hx590_5 hx590_6 hx590_7
       have HR590_5 := Aside0.mk hi590_5
       have HC590_5 := Aside0.mk hl590_5
       clear hi590_5 hl590_5
       have HR590_6 := Aside0.mk hi590_6
       have HC590_6 := Aside0.mk hl590_6
       clear hi590_6 hl590_6
       have HR590_7 := Aside0.mk hi590_7
       have HC590_7 := Aside0.mk hl590_7
       clear hi590_7 hl590_7
       replace p590 := eq_true p590
       replace q590 := eq_true q590
       have p591 : 0 ≤ (x5_1 : Int) := of_decide_eq_true (by assumption)
       have q591 : x5_1 < (l0.length : Int) := of_decide_eq_true (by assumption)
       obtain ⟨ad591, A591_5, c591_5, A591_6, c591_6, A591_7, c591_7, e591, hx591_0, hx591_1, hx591_2, hx591_3, hx591_4, hx591_5, hx591_6, hx591_7, hl591_5, hi591_5, hl591_6, hi591_6, hl591_7, hi591_7⟩ := at_T34 HR0.out x5_1 p591 q591
       (try rw [← Nbq40.out] at hx591_1)
       obtain rfl : ad575 = ad591 := (by injection e591)
       obtain ⟨hx591_0, hx591_1, hx591_2, hx591_3, hx591_4, hx591_5, hx591_6, hx591_7⟩ := lb8_ HB.out hx591_0 hx591_1 hx591_2 hx591_3 hx591_4 hx591_5 hx591_6 hx591_7
       have HR591_5 := Aside0.mk hi591_5
       have HC591_5 := Aside0.mk hl591_5
       clear hi591_5 hl591_5
       have HR591_6 := Aside0.mk hi591_6
       have HC591_6 := Aside0.mk hl591_6
       clear hi591_6 hl591_6
       have HR591_7 := Aside0.mk hi591_7
       have HC591_7 := Aside0.mk hl591_7
       clear hi591_7 hl591_7
       replace p591 := eq_true p591
       replace q591 := eq_true q591
       have ea_ := Option.some.inj (hx590_5.symm.trans hx591_5)
       injection ea_ with ea_ en_ ec_
       subst ea_
       subst ec_
       clear en_
       have ea_ := Option.some.inj (hx590_6.symm.trans hx591_6)
       injection ea_ with ea_ en_ ec_
       subst ea_
       subst ec_
       clear en_
       have ea_ := Option.some.inj (hx590_7.symm.trans hx591_7)
       injection ea_ with ea_ en_ ec_
       subst ea_
       subst ec_
       clear en_
       have p592 : 0 ≤ (x5_1 : Int) := of_decide_eq_true (by assumption)
       have q592 : x5_1 < (l0.length : Int) := of_decide_eq_true (by assumption)
       obtain ⟨ad592, A592_5, c592_5, A592_6, c592_6, A592_7, c592_7, e592, hx592_0, hx592_1, hx592_2, hx592_3, hx592_4, hx592_5, hx592_6, hx592_7, hl592_5, hi592_5, hl592_6, hi592_6, hl592_7, hi592_7⟩ := at_T34 HR0.out x5_1 p592 q592
       (try rw [← Nbq40.out] at hx592_1)
       obtain rfl : ad575 = ad592 := (by injection e592)
       obtain ⟨hx592_0, hx592_1, hx592_2, hx592_3, hx592_4, hx592_5, hx592_6, hx592_7⟩ := lb8_ HB.out hx592_0 hx592_1 hx592_2 hx592_3 hx592_4 hx592_5 hx592_6 hx592_7
       have HR592_5 := Aside0.mk hi592_5
       have HC592_5 := Aside0.mk hl592_5
       clear hi592_5 hl592_5
       have HR592_6 := Aside0.mk hi592_6
       have HC592_6 := Aside0.mk hl592_6
       clear hi592_6 hl592_6
       have HR592_7 := Aside0.mk hi592_7
       have HC592_7 := Aside0.mk hl592_7
       clear hi592_7 hl592_7
       replace p592 := eq_true p592
       replace q592 := eq_true q592
       have ea_ := Option.some.inj (hx590_5.symm.trans hx592_5)
       injection ea_ with ea_ en_ ec_
       subst ea_
       subst ec_
       clear en_
       have ea_ := Option.some.inj (hx590_6.symm.trans hx592_6)
       injection ea_ with ea_ en_ ec_
       subst ea_
       subst ec_
       clear en_
       have ea_ := Option.some.inj (hx590_7.symm.trans hx592_7)
       injection ea_ with ea_ en_ ec_
       subst ea_
       subst ec_
       clear en_
       have p593 : 0 ≤ (x5_1 : Int) := of_decide_eq_true (by assumption)
       have q593 : x5_1 < (l0.length : Int) := of_decide_eq_true (by assumption)
       obtain ⟨ad593, A593_5, c593_5, A593_6, c593_6, A593_7, c593_7, e593, hx593_0, hx593_1, hx593_2, hx593_3, hx593_4, hx593_5, hx593_6, hx593_7, hl593_5, hi593_5, hl593_6, hi593_6, hl593_7, hi593_7⟩ := at_T34 HR0.out x5_1 p593 q593
       (try rw [← Nbq40.out] at hx593_1)
       obtain rfl : ad575 = ad593 := (by injection e593)
       obtain ⟨hx593_0, hx593_1, hx593_2, hx593_3, hx593_4, hx593_5, hx593_6, hx593_7⟩ := lb8_ HB.out hx593_0 hx593_1 hx593_2 hx593_3 hx593_4 hx593_5 hx593_6 hx593_7
       have HR593_5 := Aside0.mk hi593_5
       have HC593_5 := Aside0.mk hl593_5
       clear hi593_5 hl593_5
       have HR593_6 := Aside0.mk hi593_6
       have HC593_6 := Aside0.mk hl593_6
       clear hi593_6 hl593_6
       have HR593_7 := Aside0.mk hi593_7
       have HC593_7 := Aside0.mk hl593_7
       clear hi593_7 hl593_7
       replace p593 := eq_true p593
       replace q593 := eq_true q593
       have ea_ := Option.some.inj (hx590_5.symm.trans hx593_5)
       injection ea_ with ea_ en_ ec_
       subst ea_
       subst ec_
       clear en_
       have ea_ := Option.some.inj (hx590_6.symm.trans hx593_6)
       injection ea_ with ea_ en_ ec_
       subst ea_
       subst ec_
       clear en_
       have ea_ := Option.some.inj (hx590_7.symm.trans hx593_7)
       injection ea_ with ea_ en_ ec_
       subst ea_
       subst ec_
       clear en_
       go_wp2_with (first | (go_at_call 37; (with_reducible refine (glacisref05_Tail.calls kj12 _ _ ((rd_T34 l0 x5_1).f2.f3) t594 t595 _ (tab_ hT_ ?hTab) ?side1 ?side2 A47.out).mono ?_); (case hTab => exact (bl_ HB.out)); (case side1 => repeat (first | exact (Kd.C_below HR593_5.out HB.out) | (with_reducible refine Kd.C_alloc ?_ _) | (with_reducible refine Kd.C_drewN ?_ _) | (with_reducible refine Kd.C_drew ?_))); (case side2 => exact HC593_5.out); rintro e w50 ⟨rfl, hb⟩; replace HB := bs_ HB hb; (try clear hb)))
       repeat (go_quiet (first | (go_at_call 37; (with_reducible refine (glacisref05_Tail.calls kj12 _ _ ((rd_T34 l0 x5_1).f2.f3) t594 t595 _ (tab_ hT_ ?hTab) ?side1 ?side2 A47.out).mono ?_); (case hTab => exact (bl_ HB.out)); (case side1 => repeat (first | exact (Kd.C_below HR593_5.out HB.out) | (with_reducible refine Kd.C_alloc ?_ _) | (with_reducible refine Kd.C_drewN ?_ _) | (with_reducible refine Kd.C_drew ?_))); (case side2 => exact HC593_5.out); rintro e w50 ⟨rfl, hb⟩; replace HB := bs_ HB hb; (try clear hb))); try go_wp2_with (first | (go_at_call 37; (with_reducible refine (glacisref05_Tail.calls kj12 _ _ ((rd_T34 l0 x5_1).f2.f3) t594 t595 _ (tab_ hT_ ?hTab) ?side1 ?side2 A47.out).mono ?_); (case hTab => exact (bl_ HB.out)); (case side1 => repeat (first | exact (Kd.C_below HR593_5.out HB.out) | (with_reducible refine Kd.C_alloc ?_ _) | (with_reducible refine Kd.C_drewN ?_ _) | (with_reducible refine Kd.C_drew ?_))); (case side2 => exact HC593_5.out); rintro e w50 ⟨rfl, hb⟩; replace HB := bs_ HB hb; (try clear hb))))
       go_roundg kj12
       case measure => have := HK1.out; have := HK2.out; have := HJ12.out; omega
       case rel => exact ⟨((x4_1 ++ t579) ++ t594), (wrap64 (x5_1 + 1)), (by first | rfl | simp [*]), (by first | rfl | simp [*]), H', ⟨by have := HK1.out; have := HK2.out; have := HJ12.out; omega⟩, ⟨bl_ HB.out⟩⟩
def glacislaw06_SfieldTells.f (k : Nat) (l0 : List (S34)) : Option (Bool) := (glacislaw06_awake.f k).bind fun t596 => ((glacislaw06_few.f k l0).bind fun t597 => (if t597 = true then ((sfield_ListText.f k l0).bind fun bt598 => ((glacisref06_ListText.f k l0).bind fun bt600 => ((sfield_DictText.f k l0).bind fun bt602 => ((glacisref06_DictText.f k l0).bind fun bt604 => (if t596 = true then (if bt598.1.toList = bt600.1.toList then (if bt598.2 = bt600.2 then (if bt602.1.toList = bt604.1.toList then (some (bt602.2 == bt604.2)) else (none)) else (none)) else (none)) else (none)))))) else (some t596)))
theorem glacislaw06_SfieldTells.calls (k : Nat) (A0 : Option Addr) (c0 : Nat) (l0 : List (S34)) (r : Bool) (w : World) (hT_ : Aside0 (TabW w)) (hr0 : Kd.C k34 w A0 l0.length l0) (hc0 : l0.length ≤ c0) (h : glacislaw06_SfieldTells.f k l0 = some r) :
  Calls Tryz.prog 6 #[.slice A0 l0.length c0] w fun e w' => e = .returned (.bool r) ∧ Below w.heap.size w w' := by
 have HR0 := Aside0.mk hr0
 have HC0 := Aside0.mk hc0
 clear hr0 hc0
 have HB := Aside0.mk (Below.refl w.heap.size w)
 have H : ((glacislaw06_awake.f k).bind fun t596 => ((glacislaw06_few.f k l0).bind fun t597 => (if t597 = true then ((sfield_ListText.f k l0).bind fun bt598 => ((glacisref06_ListText.f k l0).bind fun bt600 => ((sfield_DictText.f k l0).bind fun bt602 => ((glacisref06_DictText.f k l0).bind fun bt604 => (if t596 = true then (if bt598.1.toList = bt600.1.toList then (if bt598.2 = bt600.2 then (if bt602.1.toList = bt604.1.toList then (some (bt602.2 == bt604.2)) else (none)) else (none)) else (none)) else (none)))))) else (some t596)))) = some r := h
 clear h
 replace H := Option.bind_eq_some_iff.mp H
 obtain ⟨t596, A20, H⟩ := H
 (try dsimp only at H)
 have A2 := Aside0.mk A20
 clear A20
 replace H := Option.bind_eq_some_iff.mp H
 obtain ⟨t597, A30, H⟩ := H
 (try dsimp only at H)
 have A3 := Aside0.mk A30
 clear A30
 by_cases c4 : t597 = true
 rotate_left
 ·replace c4 := Bool.eq_false_iff.mpr c4
  subst c4
  rw [if_neg (show ¬ (false = true) by decide)] at H
  obtain rfl := Option.some.inj H
  go_enter Tryz.func6, Tryz.ntmps6
  go_wp2_with (first | ((with_reducible refine gate_callee (f := 9) rfl ?_); refine goesL_ (some 13) rfl rfl Tryz.func9 (by kernel_rfl) rfl #[] rfl (by simp only [List.map_toArray, List.map_cons, List.map_nil] <;> rfl) ?_; (with_reducible refine (glacislaw06_awake.calls k  t596 _ (tab_ hT_ ?hTab) A2.out).mono ?_); (case hTab => exact (bl_ HB.out)); rintro e w43 ⟨rfl, hb⟩; refine ⟨_, rfl, ?_⟩; replace HB := bs_ HB hb; (try clear hb)) | ((with_reducible refine gate_callee (f := 16) rfl ?_); refine goesL_ (some 15) rfl rfl Tryz.func16 (by kernel_rfl) rfl #[.slice A0 l0.length c0] rfl (by simp only [List.map_toArray, List.map_cons, List.map_nil] <;> rfl) ?_; (with_reducible refine (glacislaw06_few.calls k _ _ l0 false _ ?side1 ?side2 A3.out).mono ?_); (case side1 => exact cl_ (Kd.C_below HR0.out HB.out)); (case side2 => exact HC0.out); rintro e w44 ⟨rfl, hb⟩; refine ⟨_, rfl, ?_⟩; replace HB := bs_ HB hb; (try clear hb)))
  go_ret
  exact ⟨by first | rfl | simp [*, errW_none, errW_some, q_ne_nil], bl_ HB.out⟩
 subst c4
 rw [if_pos rfl] at H
 replace H := Option.bind_eq_some_iff.mp H
 obtain ⟨⟨t598, t599⟩, A50, H⟩ := H
 (try dsimp only at H)
 have A5 := Aside0.mk A50
 clear A50
 replace H := Option.bind_eq_some_iff.mp H
 obtain ⟨⟨t600, t601⟩, A60, H⟩ := H
 (try dsimp only at H)
 have A6 := Aside0.mk A60
 clear A60
 replace H := Option.bind_eq_some_iff.mp H
 obtain ⟨⟨t602, t603⟩, A70, H⟩ := H
 (try dsimp only at H)
 have A7 := Aside0.mk A70
 clear A70
 replace H := Option.bind_eq_some_iff.mp H
 obtain ⟨⟨t604, t605⟩, A80, H⟩ := H
 (try dsimp only at H)
 have A8 := Aside0.mk A80
 clear A80
 by_cases c9 : t596 = true
 rotate_left
 ·exact absurd H (by rw [if_neg c9]; simp)
 subst c9
 rw [if_pos rfl] at H
 by_cases c10 : t598.toList = t600.toList
 ·rw [if_pos c10] at H
  obtain ⟨c10b0, c10b1⟩ := eT_ c10
  clear c10
  by_cases c11 : t599 = t601
  ·rw [if_pos c11] at H
   obtain ⟨c11b0, c11b1⟩ := eT_ c11
   clear c11
   by_cases c12 : t602.toList = t604.toList
   ·rw [if_pos c12] at H
    obtain ⟨c12b0, c12b1⟩ := eT_ c12
    clear c12
    obtain rfl := Option.some.inj H
    go_enter Tryz.func6, Tryz.ntmps6
    go_wp2_with (first | ((with_reducible refine gate_callee (f := 9) rfl ?_); refine goesL_ (some 13) rfl rfl Tryz.func9 (by kernel_rfl) rfl #[] rfl (by simp only [List.map_toArray, List.map_cons, List.map_nil] <;> rfl) ?_; (with_reducible refine (glacislaw06_awake.calls k  true _ (tab_ hT_ ?hTab) A2.out).mono ?_); (case hTab => exact (bl_ HB.out)); rintro e w13 ⟨rfl, hb⟩; refine ⟨_, rfl, ?_⟩; replace HB := bs_ HB hb; (try clear hb)) | ((with_reducible refine gate_callee (f := 16) rfl ?_); refine goesL_ (some 15) rfl rfl Tryz.func16 (by kernel_rfl) rfl #[.slice A0 l0.length c0] rfl (by simp only [List.map_toArray, List.map_cons, List.map_nil] <;> rfl) ?_; (with_reducible refine (glacislaw06_few.calls k _ _ l0 true _ ?side1 ?side2 A3.out).mono ?_); (case side1 => exact cl_ (Kd.C_below HR0.out HB.out)); (case side2 => exact HC0.out); rintro e w14 ⟨rfl, hb⟩; refine ⟨_, rfl, ?_⟩; replace HB := bs_ HB hb; (try clear hb)) | ((with_reducible refine gate_callee (f := 17) rfl ?_); refine goesL_ (some 21) rfl rfl Tryz.func17 (by kernel_rfl) rfl #[.slice A0 l0.length c0] rfl (by simp only [List.map_toArray, List.map_cons, List.map_nil] <;> rfl) ?_; (with_reducible refine (sfield_ListText.calls k _ _ l0 t598 t599 _ (tab_ hT_ ?hTab) ?side1 ?side2 A5.out).mono ?_); (case hTab => exact (bl_ HB.out)); (case side1 => exact cl_ (Kd.C_below HR0.out HB.out)); (case side2 => exact HC0.out); rintro e w15 ⟨rfl, hb⟩; refine ⟨_, rfl, ?_⟩; replace HB := bs_ HB hb; (try clear hb)) | ((with_reducible refine gate_callee (f := 18) rfl ?_); refine goesL_ (some 26) rfl rfl Tryz.func18 (by kernel_rfl) rfl #[.slice A0 l0.length c0] rfl (by simp only [List.map_toArray, List.map_cons, List.map_nil] <;> rfl) ?_; (with_reducible refine (glacisref06_ListText.calls k _ _ l0 t600 t601 _ (tab_ hT_ ?hTab) ?side1 ?side2 A6.out).mono ?_); (case hTab => exact (bl_ HB.out)); (case side1 => exact cl_ (Kd.C_below HR0.out HB.out)); (case side2 => exact HC0.out); rintro e w16 ⟨rfl, hb⟩; refine ⟨_, rfl, ?_⟩; replace HB := bs_ HB hb; (try clear hb)) | ((with_reducible refine gate_callee (f := 19) rfl ?_); refine goesL_ (some 31) rfl rfl Tryz.func19 (by kernel_rfl) rfl #[.slice A0 l0.length c0] rfl (by simp only [List.map_toArray, List.map_cons, List.map_nil] <;> rfl) ?_; (with_reducible refine (sfield_DictText.calls k _ _ l0 t602 t603 _ (tab_ hT_ ?hTab) ?side1 ?side2 A7.out).mono ?_); (case hTab => exact (bl_ HB.out)); (case side1 => exact cl_ (Kd.C_below HR0.out HB.out)); (case side2 => exact HC0.out); rintro e w17 ⟨rfl, hb⟩; refine ⟨_, rfl, ?_⟩; replace HB := bs_ HB hb; (try clear hb)) | ((with_reducible refine gate_callee (f := 20) rfl ?_); refine goesL_ (some 36) rfl rfl Tryz.func20 (by kernel_rfl) rfl #[.slice A0 l0.length c0] rfl (by simp only [List.map_toArray, List.map_cons, List.map_nil] <;> rfl) ?_; (with_reducible refine (glacisref06_DictText.calls k _ _ l0 t604 t605 _ (tab_ hT_ ?hTab) ?side1 ?side2 A8.out).mono ?_); (case hTab => exact (bl_ HB.out)); (case side1 => exact cl_ (Kd.C_below HR0.out HB.out)); (case side2 => exact HC0.out); rintro e w18 ⟨rfl, hb⟩; refine ⟨_, rfl, ?_⟩; replace HB := bs_ HB hb; (try clear hb)))
    go_ret
    exact ⟨by first | rfl | simp [*, errW_none, errW_some, q_ne_nil], bl_ HB.out⟩
   exact absurd H (by rw [if_neg c12]; simp)
  exact absurd H (by rw [if_neg c11]; simp)
 exact absurd H (by rw [if_neg c10]; simp)
end Go.Proofs.YtjdbiicjfpgjkaaGreatDoor.Q
/- Chapter 5: the calls whose answers the document fixes. -/
namespace Go.Proofs.YtjdbiicjfpgjkaaGreatDoor.Pl
open Go.RowKit Go.Proofs.YtjdbiicjfpgjkaaGreatDoor.Q Go.Proofs.YtjdbiicjfpgjkaaGreatDoor.Sf Go.Proofs.YtjdbiicjfpgjkaaGreatDoorW.PrintWords Go.Proofs.YtjdbiicjfpgjkaaGreatDoorW.PrintLast
set_option linter.unusedVariables false
set_option linter.unusedSimpArgs false
theorem itoa_1 : itoaBA 1 = ⟨#[49]⟩ := by
  have h : Lib.itoa 1 = [49] := by
    unfold Lib.itoa
    rw [if_neg (by decide), Lib.decDigits]
    decide
  unfold itoaBA; rw [h]
theorem itoa_0 : itoaBA 0 = ⟨#[48]⟩ := by
  have h : Lib.itoa 0 = [48] := by
    unfold Lib.itoa
    rw [if_neg (by decide), Lib.decDigits]
    decide
  unfold itoaBA; rw [h]
end Go.Proofs.YtjdbiicjfpgjkaaGreatDoor.Pl
/- Chapter 5: the reader over lists of bytes: what text tells what value, and how such a text is read. -/
namespace Go.Proofs.YtjdbiicjfpgjkaaGreatDoor.Pl
open Go.RowKit Go.Proofs.YtjdbiicjfpgjkaaGreatDoor.Q Go.Proofs.YtjdbiicjfpgjkaaGreatDoor.Sf Go.Proofs.YtjdbiicjfpgjkaaGreatDoorW.PrintWords Go.Proofs.YtjdbiicjfpgjkaaGreatDoorW.PrintLast
set_option linter.unusedVariables false
set_option linter.unusedSimpArgs false
def L (s : ByteArray) : List UInt8 := s.data.toList
def B (l : List UInt8) : ByteArray := ⟨l.toArray⟩
theorem L_B (l : List UInt8) : L (B l) = l := by simp [L, B]
theorem B_L (s : ByteArray) : B (L s) = s := by apply ByteArray.ext; simp [L, B]
theorem L_inj {a b : ByteArray} (h : L a = L b) : a = b := by rw [← B_L a, h, B_L]
theorem L_app (a b : ByteArray) : L (a ++ b) = L a ++ L b := by unfold L; simp
theorem size_L (s : ByteArray) : s.size = (L s).length := Lib.size_eq s
theorem L_tl (s : ByteArray) : L (tl s) = (L s).tail := by
  unfold L tl
  rw [Lib.extract_data, Lib.size_eq]
  rw [List.take_of_length_le (by simp), List.drop_one]
theorem bt0 {s : ByteArray} {c : UInt8} {r : List UInt8} (h : L s = c :: r) : bt s 0 = (c.toNat : Int) := by
  have hl : 0 < s.data.toList.length := by show 0 < (L s).length; rw [h]; simp
  have := bt_list s 0 hl
  have e : s.data.toList[0] = c := by
    have h2 : s.data.toList = c :: r := h
    simp [h2]
  rw [e] at this
  exact this
theorem size_pos {s : ByteArray} {c : UInt8} {r : List UInt8} (h : L s = c :: r) : 0 < s.size := by rw [size_L, h]; simp
theorem size_nil {s : ByteArray} (h : L s = []) : ¬ 0 < s.size := by rw [size_L, h]; simp
theorem atF_cons {s : ByteArray} {c : UInt8} {r : List UInt8} (h : L s = c :: r) (n : Int) : atF s n = decide ((c.toNat : Int) = n) := by
  unfold atF; rw [bt0 h]; simp [size_pos h]
theorem atF_nil {s : ByteArray} (h : L s = []) (n : Int) : atF s n = false := by
  unfold atF; simp [size_nil h]
theorem atF_ex {s : ByteArray} {n : Int} (h : atF s n = true) : ∃ c r, L s = c :: r ∧ (c.toNat : Int) = n := by
  cases e : L s with
  | nil => rw [atF_nil e] at h; cases h
  | cons c r => rw [atF_cons e] at h; exact ⟨c, r, rfl, of_decide_eq_true h⟩
theorem L_tak (p : Int → Bool) (s : ByteArray) : L (takB p s) = (L s).takeWhile (fun c => p c.toNat) := tak_data p s
theorem L_drp (p : Int → Bool) (s : ByteArray) : L (drpB p s) = (L s).dropWhile (fun c => p c.toNat) := by
  have h1 : L (drpB p s) = (L s).drop (spanB p s) := by
    unfold L drpB
    rw [Lib.extract_data, Lib.size_eq]
    rw [List.take_of_length_le (by simp)]
  rw [h1]
  have h2 : spanB p s = ((L s).takeWhile (fun c => p c.toNat)).length := rfl
  rw [h2]
  generalize (fun c : UInt8 => p c.toNat) = q
  induction L s with
  | nil => rfl
  | cons x l ih => rw [List.takeWhile_cons, List.dropWhile_cons]; split <;> simp [*]
theorem takeW_app {α : Type} (q : α → Bool) : ∀ (w r : List α), (∀ c ∈ w, q c = true) → (∀ c r', r = c :: r' → q c = false) → (w ++ r).takeWhile q = w ∧ (w ++ r).dropWhile q = r
  | [], r, _, h2 => by
    cases r with
    | nil => exact ⟨rfl, rfl⟩
    | cons c r' => rw [List.nil_append, List.takeWhile_cons, List.dropWhile_cons, h2 c r' rfl]; exact ⟨rfl, rfl⟩
  | x :: w, r, h1, h2 => by
    have ih := takeW_app q w r (fun c hc => h1 c (List.mem_cons_of_mem _ hc)) h2
    rw [List.cons_append, List.takeWhile_cons, List.dropWhile_cons, h1 x (List.mem_cons_self ..)]
    simp only [if_true]
    rw [ih.1, ih.2]; exact ⟨rfl, rfl⟩
theorem span_split {α : Type} (q : α → Bool) (l : List α) : l.takeWhile q ++ l.dropWhile q = l := List.takeWhile_append_dropWhile
theorem allU (P : UInt8 → Bool) (h : (List.range 256).all (fun n => P (UInt8.ofNat n)) = true) (c : UInt8) : P c = true := by
  have hc : c.toNat < 256 := c.toNat_lt
  have := List.all_eq_true.1 h c.toNat (List.mem_range.2 hc)
  simpa using this
def numL (l : List UInt8) : Nat := l.foldl (fun a c => a * 10 + (c.toNat - 48)) 0
theorem numV_L (s : ByteArray) : numV s = numL (L s) := rfl
def zerL (n : Nat) : List UInt8 := ([48, 48, 48] : List UInt8).drop n
theorem zer_L (n : Nat) : L (zer n) = zerL n := by
  unfold L zer
  rw [Lib.extract_data]
  show List.take (3 - n) (List.drop n [48, 48, 48]) = zerL n
  rw [List.take_of_length_le (by simp)]; rfl
def dgU (c : UInt8) : Bool := dgP c.toNat
def toU (c : UInt8) : Bool := tokP c.toNat
def baU (c : UInt8) : Bool := baP c.toNat
def keU (c : UInt8) : Bool := keP c.toNat
inductive QT : List UInt8 → List UInt8 → Prop
  | stop : QT [34] []
  | plain (c : UInt8) (q t : List UInt8) (h1 : 32 ≤ c.toNat) (h2 : c.toNat ≤ 126) (h3 : c.toNat ≠ 34) (h4 : c.toNat ≠ 92) (h : QT q t) : QT (c :: q) (c :: t)
  | esc (c : UInt8) (q t : List UInt8) (h1 : c.toNat = 34 ∨ c.toNat = 92) (h : QT q t) : QT (92 :: c :: q) (c :: t)
def sgV (sg : List UInt8) : Int := if sg = [] then 1 else -1
inductive VT : List UInt8 → Int → Int → List UInt8 → Prop
  | int (sg w : List UInt8) (h0 : sg = [] ∨ sg = [45]) (h1 : w ≠ []) (h2 : ∀ c ∈ w, dgU c = true) (h3 : w.length ≤ 15) : VT (sg ++ w) 1 (sgV sg * (numL w : Int)) []
  | dec (sg w p : List UInt8) (h0 : sg = [] ∨ sg = [45]) (h1 : w ≠ []) (h2 : ∀ c ∈ w, dgU c = true) (h3 : w.length ≤ 12) (h4 : p ≠ []) (h5 : ∀ c ∈ p, dgU c = true) (h6 : p.length ≤ 3) : VT (sg ++ (w ++ 46 :: p)) 2 (sgV sg * (numL (w ++ (p ++ zerL p.length)) : Int)) []
  | tok (c : UInt8) (w : List UInt8) (h0 : leP c.toNat = true ∨ (c.toNat : Int) = 42) (h1 : ∀ x ∈ c :: w, toU x = true) : VT (c :: w) 4 0 (c :: w)
  | quo (q t : List UInt8) (h : QT q t) : VT (34 :: q) 3 0 t
  | byt (w : List UInt8) (h : ∀ c ∈ w, baU c = true) : VT (58 :: (w ++ [58])) 5 0 w
  | one : VT [63, 49] 6 1 []
  | zero : VT [63, 48] 6 0 []
def KT (k : List UInt8) : Prop := ∃ c w, k = c :: w ∧ (smP c.toNat = true ∨ (c.toNat : Int) = 42) ∧ ∀ x ∈ k, keU x = true
def Endc (c : UInt8) : Bool := c == 59 || c == 44 || c == 32 || c == 9 || c == 41
def Ends (r : List UInt8) : Prop := ∀ c r', r = c :: r' → Endc c = true
theorem Ends.nil : Ends [] := fun _ _ h => by cases h
theorem Ends.cons {c : UInt8} (h : Endc c = true) (r : List UInt8) : Ends (c :: r) := fun _ _ e => by cases e; exact h
theorem Ends.semi (r : List UInt8) : Ends (59 :: r) := Ends.cons (by decide) r
theorem Ends.not {q : UInt8 → Bool} {r : List UInt8} (h : Ends r) (hq : ∀ c, Endc c = true → q c = false) : ∀ c r', r = c :: r' → q c = false := fun c r' e => hq c (h c r' e)
theorem end_all {P : UInt8 → Bool} (h : (List.range 256).all (fun n => !(Endc (UInt8.ofNat n)) || !(P (UInt8.ofNat n))) = true) (c : UInt8) (hc : Endc c = true) : P c = false := by
  have := allU (fun c => !(Endc c) || !(P c)) h c
  simpa [hc] using this
theorem digU_59 (c : UInt8) (h : Endc c = true) : dgU c = false := end_all (by decide +kernel) c h
theorem tokU_59 (c : UInt8) (h : Endc c = true) : toU c = false := end_all (by decide +kernel) c h
theorem keyU_59 (c : UInt8) (h : Endc c = true) : keU c = false := end_all (by decide +kernel) c h
theorem end_ne (c : UInt8) (h : Endc c = true) : c.toNat ≠ 46 ∧ (c.toNat : Int) ≠ 61 := by
  have h1 := end_all (P := fun c => decide (c.toNat = 46) || decide ((c.toNat : Int) = 61)) (by decide +kernel) c h
  simpa using h1
theorem dg_ne {c : UInt8} (h : dgU c = true) : 48 ≤ c.toNat ∧ c.toNat ≤ 57 := by
  unfold dgU dgP at h; have := of_decide_eq_true h; omega
theorem number_read (sg w r : List UInt8) (s : ByteArray) (h0 : sg = [] ∨ sg = [45]) (h1 : w ≠ []) (h2 : ∀ c ∈ w, dgU c = true) (hr : ∀ c r', r = c :: r' → dgU c = false) (e : L s = sg ++ (w ++ r)) :
    sgn s = sgV sg ∧ L (takB dgP (atR s 45)) = w ∧ L (drpB dgP (atR s 45)) = r := by
  have key : ∀ t : ByteArray, L t = w ++ r → L (takB dgP t) = w ∧ L (drpB dgP t) = r := fun t et => by
    rw [L_tak, L_drp, et]
    exact takeW_app (fun c : UInt8 => dgP c.toNat) w r h2 hr
  rcases h0 with rfl | rfl
  · obtain ⟨c, w', rfl⟩ := List.exists_cons_of_ne_nil h1
    have hc := dg_ne (h2 c (List.mem_cons_self ..))
    have e1 : L s = c :: (w' ++ r) := e
    have e2 : atF s 45 = false := by rw [atF_cons e1]; exact decide_eq_false (by omega)
    have e3 : atR s 45 = s := by unfold atR; rw [e2]; rfl
    refine ⟨by unfold sgn; rw [e2]; rfl, ?_⟩
    rw [e3]; exact key s e
  have e1 : L s = 45 :: (w ++ r) := e
  have e2 : atF s 45 = true := by rw [atF_cons e1]; rfl
  have e3 : atR s 45 = tl s := by unfold atR; rw [e2]; rfl
  refine ⟨by unfold sgn; rw [e2]; rfl, ?_⟩
  rw [e3]; exact key (tl s) (by rw [L_tl, e1]; rfl)
theorem int_read (sg w r : List UInt8) (s : ByteArray) (h0 : sg = [] ∨ sg = [45]) (h1 : w ≠ []) (h2 : ∀ c ∈ w, dgU c = true) (h3 : w.length ≤ 15) (hr : ∀ c r', r = c :: r' → dgU c = false) (hp : ∀ c r', r = c :: r' → c.toNat ≠ 46) (e : L s = sg ++ (w ++ r)) :
    rdNumber s = some ((1, sgV sg * (numL w : Int), ⟨#[]⟩), B r) := by
  obtain ⟨a, b, c⟩ := number_read sg w r s h0 h1 h2 hr e
  have a' : (if atF s 45 = true then (-1 : Int) else 1) = sgV sg := a
  unfold rdNumber
  simp only []
  have hw : ¬ (takB dgP (atR s 45)).size = 0 := by rw [size_L, b]; simpa using h1
  have hd : atF (drpB dgP (atR s 45)) 46 = false := by
    cases r with
    | nil => exact atF_nil c 46
    | cons x r' => rw [atF_cons c]; exact decide_eq_false (by have := hp x r' rfl; omega)
  have hl : ¬ (takB dgP (atR s 45)).size > 15 := by rw [size_L, b]; omega
  rw [if_neg hw, hd, if_neg (by decide), if_neg hl, a', numV_L, b]
  have : drpB dgP (atR s 45) = B r := L_inj (by rw [c, L_B])
  rw [this]
theorem dec_read (sg w p r : List UInt8) (s : ByteArray) (h0 : sg = [] ∨ sg = [45]) (h1 : w ≠ []) (h2 : ∀ c ∈ w, dgU c = true) (h3 : w.length ≤ 12) (h4 : p ≠ []) (h5 : ∀ c ∈ p, dgU c = true) (h6 : p.length ≤ 3)
    (hr : ∀ c r', r = c :: r' → dgU c = false) (e : L s = sg ++ (w ++ (46 :: (p ++ r)))) :
    rdNumber s = some ((2, sgV sg * (numL (w ++ (p ++ zerL p.length)) : Int), ⟨#[]⟩), B r) := by
  obtain ⟨a, b, c⟩ := number_read sg w (46 :: (p ++ r)) s h0 h1 h2 (fun c r' h => by cases h; decide) e
  have a' : (if atF s 45 = true then (-1 : Int) else 1) = sgV sg := a
  have hw : ¬ (takB dgP (atR s 45)).size = 0 := by rw [size_L, b]; simpa using h1
  have hd : atF (drpB dgP (atR s 45)) 46 = true := by rw [atF_cons c]; rfl
  have ht : L (tl (drpB dgP (atR s 45))) = p ++ r := by rw [L_tl, c]; rfl
  have hp := takeW_app (fun c : UInt8 => dgP c.toNat) p r h5 hr
  have f1 : L (takB dgP (tl (drpB dgP (atR s 45)))) = p := by rw [L_tak, ht]; exact hp.1
  have f2 : L (drpB dgP (tl (drpB dgP (atR s 45)))) = r := by rw [L_drp, ht]; exact hp.2
  have hn : ¬ ((takB dgP (atR s 45)).size > 12 ∨ (takB dgP (tl (drpB dgP (atR s 45)))).size = 0 ∨ (takB dgP (tl (drpB dgP (atR s 45)))).size > 3) := by
    rw [size_L, size_L, b, f1]
    have : p.length ≠ 0 := by simpa using h4
    omega
  unfold rdNumber
  simp only []
  rw [if_neg hw, hd, if_pos rfl, if_neg hn, a', numV_L, L_app, L_app, zer_L, b, f1, size_L, f1]
  have : drpB dgP (tl (drpB dgP (atR s 45))) = B r := L_inj (by rw [f2, L_B])
  rw [this]
theorem wiQ (c : UInt8) : wiP c.toNat ⟨#[34, 92]⟩ = decide (c.toNat = 34 ∨ c.toNat = 92) := by
  have := allU (fun c : UInt8 => wiP c.toNat ⟨#[34, 92]⟩ == decide (c.toNat = 34 ∨ c.toNat = 92)) (by decide +kernel) c
  exact beq_iff_eq.1 this
theorem le_not (c : UInt8) (h : leP c.toNat = true ∨ (c.toNat : Int) = 42) : ¬ ((c.toNat : Int) = 45 ∨ dgP c.toNat = true) := by
  have := allU (fun c : UInt8 => !(leP c.toNat || decide ((c.toNat : Int) = 42)) || !(decide ((c.toNat : Int) = 45) || dgP c.toNat)) (by decide +kernel) c
  simp only [Bool.or_eq_true, Bool.not_eq_true', Bool.or_eq_false_iff, decide_eq_false_iff_not] at this
  rcases this with ⟨a, b⟩ | ⟨a, b⟩
  · rcases h with h | h
    · rw [h] at a; cases a
    exact absurd h b
  rintro (h | h)
  · exact a h
  rw [h] at b; cases b
theorem num_app (l : List Int) (c : UInt8) (t : List UInt8) (h : L (strOfNums l) = t) : L (strOfNums (l ++ [(c.toNat : Int)])) = t ++ [c] := by
  subst h
  unfold L strOfNums
  simp
theorem q_read : ∀ (q t : List UInt8), QT q t → ∀ (d : Nat) (s : ByteArray) (r : List UInt8) (xs : List Int) (x0 : List UInt8), q.length ≤ d → L s = q ++ r → L (strOfNums xs) = x0 → qF d s xs = some (B (x0 ++ t), B r) := by
  intro q t h
  induction h with
  | stop =>
    intro d s r xs x0 hd e hx
    obtain ⟨d, rfl⟩ : ∃ d', d = d' + 1 := ⟨d - 1, by simp at hd; omega⟩
    have e1 : L s = 34 :: r := e
    rw [qF, if_pos (size_pos e1), bt0 e1, if_pos (by decide)]
    have a1 : strOfNums xs = B (x0 ++ []) := L_inj (by rw [hx, L_B]; simp)
    have a2 : tl s = B r := L_inj (by rw [L_tl, e1, L_B]; rfl)
    rw [a1, a2]
  | plain c q t h1 h2 h3 h4 h ih =>
    intro d s r xs x0 hd e hx
    obtain ⟨d, rfl⟩ : ∃ d', d = d' + 1 := ⟨d - 1, by simp at hd; omega⟩
    have e1 : L s = c :: (q ++ r) := e
    have e2 : L (tl s) = q ++ r := by rw [L_tl, e1]; rfl
    rw [qF, if_pos (size_pos e1), bt0 e1, if_neg (by omega), if_neg (by omega), if_neg (by omega)]
    rw [ih d (tl s) r (xs ++ [(c.toNat : Int)]) (x0 ++ [c]) (by simp at hd; omega) e2 (num_app xs c x0 hx)]
    simp
  | esc c q t h1 h ih =>
    intro d s r xs x0 hd e hx
    obtain ⟨d, rfl⟩ : ∃ d', d = d' + 1 := ⟨d - 1, by simp at hd; omega⟩
    have e1 : L s = 92 :: (c :: (q ++ r)) := e
    have e2 : L (tl s) = c :: (q ++ r) := by rw [L_tl, e1]; rfl
    have e3 : L (tl (tl s)) = q ++ r := by rw [L_tl, e2]; rfl
    have hc : wiP (bt (tl s) 0) ⟨#[34, 92]⟩ = true := by rw [bt0 e2, wiQ]; exact decide_eq_true h1
    rw [qF, if_pos (size_pos e1), bt0 e1, if_neg (by decide), if_neg (by
      rintro (h | h | ⟨_, h⟩)
      · exact absurd h (by decide)
      · exact absurd h (by decide)
      exact h ⟨size_pos e2, hc⟩), if_pos (by decide), bt0 e2]
    rw [ih d (tl (tl s)) r (xs ++ [(c.toNat : Int)]) (x0 ++ [c]) (by simp at hd; omega) e3 (num_app xs c x0 hx)]
    simp
theorem quoted_read (q t r : List UInt8) (h : QT q t) (s : ByteArray) (e : L s = q ++ r) : rdQuoted s = some ((3, 0, B t), B r) := by
  unfold rdQuoted
  rw [q_read q t h (s.size + 1) s r [] [] (by rw [size_L, e]; simp; omega) e rfl]
  rfl
theorem value_read {u : List UInt8} {n i : Int} {t : List UInt8} (h : VT u n i t) (r : List UInt8) (hr : Ends r) (s : ByteArray) (e : L s = u ++ r) : rdValue s = some ((n, i, B t), B r) := by
  unfold rdValue
  cases h with
  | int sg w h0 h1 h2 h3 =>
    have e' : L s = sg ++ (w ++ r) := by rw [e]; simp
    have hp : 0 < s.size ∧ (bt s 0 = 45 ∨ dgP (bt s 0) = true) := by
      rcases h0 with rfl | rfl
      · obtain ⟨c, w', rfl⟩ := List.exists_cons_of_ne_nil h1
        have e1 : L s = c :: (w' ++ r) := e'
        exact ⟨size_pos e1, Or.inr (by rw [bt0 e1]; exact h2 c (List.mem_cons_self ..))⟩
      have e1 : L s = 45 :: (w ++ r) := e'
      exact ⟨size_pos e1, Or.inl (by rw [bt0 e1]; rfl)⟩
    rw [if_pos hp.1, if_pos hp.2]
    exact int_read sg w r s h0 h1 h2 h3 (hr.not digU_59) (fun c r' h => (end_ne c (hr c r' h)).1) e'
  | dec sg w p h0 h1 h2 h3 h4 h5 h6 =>
    have e' : L s = sg ++ (w ++ (46 :: (p ++ r))) := by rw [e]; simp
    have hp : 0 < s.size ∧ (bt s 0 = 45 ∨ dgP (bt s 0) = true) := by
      rcases h0 with rfl | rfl
      · obtain ⟨c, w', rfl⟩ := List.exists_cons_of_ne_nil h1
        have e1 : L s = c :: (w' ++ (46 :: (p ++ r))) := e'
        exact ⟨size_pos e1, Or.inr (by rw [bt0 e1]; exact h2 c (List.mem_cons_self ..))⟩
      have e1 : L s = 45 :: (w ++ (46 :: (p ++ r))) := e'
      exact ⟨size_pos e1, Or.inl (by rw [bt0 e1]; rfl)⟩
    rw [if_pos hp.1, if_pos hp.2]
    exact dec_read sg w p r s h0 h1 h2 h3 h4 h5 h6 (hr.not digU_59) e'
  | tok c w h0 h1 =>
    have e1 : L s = c :: (w ++ r) := e
    have hn := le_not c h0
    rw [if_pos (size_pos e1), bt0 e1, if_neg hn, if_pos h0]
    have k := takeW_app (fun c : UInt8 => tokP c.toNat) (c :: w) r h1 (hr.not tokU_59)
    have a1 : takB tokP s = B (c :: w) := L_inj (by rw [L_tak, e, L_B]; exact k.1)
    have a2 : drpB tokP s = B r := L_inj (by rw [L_drp, e, L_B]; exact k.2)
    rw [a1, a2]
  | quo q t h =>
    have e1 : L s = 34 :: (q ++ r) := e
    rw [if_pos (size_pos e1), bt0 e1, if_neg (by decide), if_neg (by decide +kernel), if_pos (by decide)]
    exact quoted_read q t r h (tl s) (by rw [L_tl, e1]; rfl)
  | byt _ h =>
    have e1 : L s = 58 :: (t ++ (58 :: r)) := by rw [e]; simp
    rw [if_pos (size_pos e1), bt0 e1, if_neg (by decide), if_neg (by decide +kernel), if_neg (by decide), if_pos (by decide)]
    have e2 : L (tl s) = t ++ (58 :: r) := by rw [L_tl, e1]; rfl
    have k := takeW_app (fun c : UInt8 => baP c.toNat) t (58 :: r) h (fun c r' h => by cases h; decide +kernel)
    have a1 : takB baP (tl s) = B t := L_inj (by rw [L_tak, e2, L_B]; exact k.1)
    have a2 : L (drpB baP (tl s)) = 58 :: r := by rw [L_drp, e2]; exact k.2
    have a3 : tl (drpB baP (tl s)) = B r := L_inj (by rw [L_tl, a2, L_B]; rfl)
    unfold rdBytes
    rw [if_pos (by rw [atF_cons a2]; rfl), a1, a3]
  | one =>
    have e1 : L s = 63 :: 49 :: r := e
    have e2 : L (tl s) = 49 :: r := by rw [L_tl, e1]; rfl
    have a3 : tl (tl s) = B r := L_inj (by rw [L_tl, e2, L_B]; rfl)
    rw [if_pos (size_pos e1), bt0 e1, if_neg (by decide), if_neg (by decide +kernel), if_neg (by decide), if_neg (by decide), if_pos (by decide)]
    unfold rdBool
    rw [if_pos (by rw [atF_cons e2]; rfl), a3]; rfl
  | zero =>
    have e1 : L s = 63 :: 48 :: r := e
    have e2 : L (tl s) = 48 :: r := by rw [L_tl, e1]; rfl
    have a3 : tl (tl s) = B r := L_inj (by rw [L_tl, e2, L_B]; rfl)
    rw [if_pos (size_pos e1), bt0 e1, if_neg (by decide), if_neg (by decide +kernel), if_neg (by decide), if_neg (by decide), if_pos (by decide)]
    unfold rdBool
    rw [if_neg (by rw [atF_cons e2]; decide), if_pos (by rw [atF_cons e2]; rfl), a3]; rfl
end Go.Proofs.YtjdbiicjfpgjkaaGreatDoor.Pl
/- Chapter 5: what the reader has read is such a text; parameters; whole items. -/
namespace Go.Proofs.YtjdbiicjfpgjkaaGreatDoor.Pl
open Go.RowKit Go.Proofs.YtjdbiicjfpgjkaaGreatDoor.Q Go.Proofs.YtjdbiicjfpgjkaaGreatDoor.Sf Go.Proofs.YtjdbiicjfpgjkaaGreatDoorW.PrintWords Go.Proofs.YtjdbiicjfpgjkaaGreatDoorW.PrintLast
set_option linter.unusedVariables false
set_option linter.unusedSimpArgs false
theorem u_eq {c d : UInt8} (h : (c.toNat : Int) = (d.toNat : Int)) : c = d := UInt8.toNat_inj.1 (by omega)
theorem cons_of (s : ByteArray) (h : 0 < s.size) : ∃ c r, L s = c :: r := by
  cases e : L s with
  | nil => exact absurd h (size_nil e)
  | cons c r => exact ⟨c, r, rfl⟩
theorem qt_inv : ∀ (d : Nat) (s : ByteArray) (xs : List Int) (o t : ByteArray), qF d s xs = some (o, t) → ∃ q m, L s = q ++ L t ∧ QT q m ∧ L o = L (strOfNums xs) ++ m
  | 0, s, xs, o, t, h => by rw [qF] at h; cases h
  | d + 1, s, xs, o, t, h => by
    rw [qF] at h
    by_cases h0 : 0 < s.size
    · rw [if_pos h0] at h
      obtain ⟨c, r, e⟩ := cons_of s h0
      have et : L (tl s) = r := by rw [L_tl, e]; rfl
      rw [bt0 e] at h
      by_cases c34 : (c.toNat : Int) = 34
      · rw [if_pos c34] at h
        obtain ⟨rfl, rfl⟩ := Prod.mk.inj (Option.some.inj h)
        have : c = 34 := u_eq c34
        subst this
        exact ⟨[34], [], by rw [et, e]; rfl, QT.stop, by simp⟩
      rw [if_neg c34] at h
      by_cases bad : (c.toNat : Int) < 32 ∨ 126 < (c.toNat : Int) ∨ ((c.toNat : Int) = 92 ∧ ¬ (0 < (tl s).size ∧ wiP (bt (tl s) 0) ⟨#[34, 92]⟩ = true))
      · rw [if_pos bad] at h; cases h
      rw [if_neg bad] at h
      by_cases c92 : (c.toNat : Int) = 92
      · rw [if_pos c92] at h
        have ok : 0 < (tl s).size ∧ wiP (bt (tl s) 0) ⟨#[34, 92]⟩ = true := Classical.byContradiction fun k => bad (Or.inr (Or.inr ⟨c92, k⟩))
        obtain ⟨c2, r2, e2⟩ := cons_of (tl s) ok.1
        have ok2 := ok.2
        rw [bt0 e2, wiQ] at ok2
        rw [bt0 e2] at h
        obtain ⟨q, m, a1, a2, a3⟩ := qt_inv d _ _ _ _ h
        have e3 : L (tl (tl s)) = r2 := by rw [L_tl, e2]; rfl
        have : c = 92 := u_eq c92
        subst this
        refine ⟨92 :: c2 :: q, c2 :: m, ?_, QT.esc c2 q m (of_decide_eq_true ok2) a2, ?_⟩
        · rw [e3] at a1; rw [e, ← et, e2, a1]; rfl
        rw [a3, num_app xs c2 _ rfl]; simp
      rw [if_neg c92] at h
      obtain ⟨q, m, a1, a2, a3⟩ := qt_inv d _ _ _ _ h
      refine ⟨c :: q, c :: m, ?_, QT.plain c q m (by omega) (by omega) (by omega) (by omega) a2, ?_⟩
      · rw [et] at a1; rw [e, a1]; rfl
      rw [a3, num_app xs c _ rfl]; simp
    rw [if_neg h0] at h; cases h
theorem quoted_inv {s t : ByteArray} {v : Int × Int × ByteArray} (h : rdQuoted s = some (v, t)) : ∃ q, L s = q ++ L t ∧ QT q (L v.2.2) ∧ v.1 = 3 ∧ v.2.1 = 0 := by
  unfold rdQuoted at h
  obtain ⟨⟨o, t'⟩, hq, hm⟩ := Option.map_eq_some_iff.1 h
  unfold mkQ at hm
  obtain ⟨rfl, rfl⟩ := Prod.mk.inj hm
  obtain ⟨q, m, a1, a2, a3⟩ := qt_inv _ _ _ _ _ hq
  refine ⟨q, a1, ?_, rfl, rfl⟩
  have : L (strOfNums []) = [] := rfl
  rw [this] at a3
  simpa [a3] using a2
theorem number_inv {s t : ByteArray} {v : Int × Int × ByteArray} (h : rdNumber s = some (v, t)) : ∃ u, L s = u ++ L t ∧ VT u v.1 v.2.1 (L v.2.2) := by
  obtain ⟨sg, h0, hs, hg⟩ : ∃ sg : List UInt8, (sg = [] ∨ sg = [45]) ∧ L s = sg ++ L (atR s 45) ∧ (if atF s 45 = true then (-1 : Int) else 1) = sgV sg := by
    unfold atR
    cases e : atF s 45 with
    | false => exact ⟨[], Or.inl rfl, rfl, rfl⟩
    | true =>
      obtain ⟨c, r, e1, e2⟩ := atF_ex e
      have : c = 45 := u_eq e2
      subst this
      exact ⟨[45], Or.inr rfl, by rw [if_pos rfl, L_tl, e1]; rfl, rfl⟩
  unfold rdNumber at h
  simp only [] at h
  rw [hg] at h
  have hw := L_tak dgP (atR s 45)
  have hd := L_drp dgP (atR s 45)
  have hsp := span_split (fun c : UInt8 => dgP c.toNat) (L (atR s 45))
  have hall := tak_all dgP (atR s 45)
  rw [← hw, ← hd] at hsp
  generalize takB dgP (atR s 45) = w at *
  generalize drpB dgP (atR s 45) = s2 at *
  by_cases hw0 : w.size = 0
  · rw [if_pos hw0] at h; cases h
  rw [if_neg hw0] at h
  have hwn : L w ≠ [] := by rw [size_L] at hw0; intro e; rw [e] at hw0; exact hw0 rfl
  cases e : atF s2 46 with
  | true =>
    rw [e, if_pos rfl] at h
    obtain ⟨c, r, e1, e2⟩ := atF_ex e
    have : c = 46 := u_eq e2
    subst this
    have hw2 := L_tak dgP (tl s2)
    have hd2 := L_drp dgP (tl s2)
    have hsp2 := span_split (fun c : UInt8 => dgP c.toNat) (L (tl s2))
    have hall2 := tak_all dgP (tl s2)
    rw [← hw2, ← hd2] at hsp2
    have et : L (tl s2) = r := by rw [L_tl, e1]; rfl
    generalize takB dgP (tl s2) = p at *
    generalize drpB dgP (tl s2) = s3 at *
    by_cases hb : w.size > 12 ∨ p.size = 0 ∨ p.size > 3
    · rw [if_pos hb] at h; cases h
    · rw [if_neg hb] at h
      obtain ⟨rfl, rfl⟩ := Prod.mk.inj (Option.some.inj h)
      simp only [size_L] at hb
      refine ⟨sg ++ (L w ++ 46 :: L p), ?_, ?_⟩
      · rw [hs, ← hsp, e1, ← et, ← hsp2]; simp
      · have := VT.dec sg (L w) (L p) h0 hwn hall (by omega) (by intro k; rw [k] at hb; exact hb (Or.inr (Or.inl rfl))) hall2 (by omega)
        rw [numV_L, L_app, L_app, zer_L, size_L]
        exact this
  | false =>
    rw [e, if_neg (by decide)] at h
    by_cases hb : w.size > 15
    · rw [if_pos hb] at h; cases h
    rw [if_neg hb] at h
    obtain ⟨rfl, rfl⟩ := Prod.mk.inj (Option.some.inj h)
    rw [size_L] at hb
    exact ⟨sg ++ L w, by rw [hs, ← hsp]; simp, VT.int sg (L w) h0 hwn hall (by omega)⟩
theorem le_tok (c : UInt8) (h : leP c.toNat = true ∨ (c.toNat : Int) = 42) : toU c = true := by
  have := allU (fun c : UInt8 => !(leP c.toNat || decide ((c.toNat : Int) = 42)) || toU c) (by decide +kernel) c
  simp only [Bool.or_eq_true, Bool.not_eq_true', Bool.or_eq_false_iff, decide_eq_false_iff_not] at this
  rcases this with ⟨a, b⟩ | a
  · rcases h with h | h
    · rw [h] at a; cases a
    exact absurd h b
  exact a
theorem value_inv {s t : ByteArray} {v : Int × Int × ByteArray} (h : rdValue s = some (v, t)) : ∃ u, L s = u ++ L t ∧ VT u v.1 v.2.1 (L v.2.2) := by
  unfold rdValue at h
  by_cases h0 : 0 < s.size
  · rw [if_pos h0] at h
    obtain ⟨c, r, e⟩ := cons_of s h0
    have et : L (tl s) = r := by rw [L_tl, e]; rfl
    rw [bt0 e] at h
    by_cases c1 : (c.toNat : Int) = 45 ∨ dgP c.toNat = true
    · rw [if_pos c1] at h; exact number_inv h
    rw [if_neg c1] at h
    by_cases c2 : leP c.toNat = true ∨ (c.toNat : Int) = 42
    · rw [if_pos c2] at h
      obtain ⟨rfl, rfl⟩ := Prod.mk.inj (Option.some.inj h)
      have hw := L_tak tokP s
      have hd := L_drp tokP s
      have hsp := span_split (fun c : UInt8 => tokP c.toNat) (L s)
      rw [← hw, ← hd] at hsp
      refine ⟨L (takB tokP s), hsp.symm, ?_⟩
      have hc : L (takB tokP s) = c :: r.takeWhile (fun c => tokP c.toNat) := by
        rw [hw, e, List.takeWhile_cons, show tokP c.toNat = true from le_tok c c2]; simp
      have hall : ∀ x ∈ L (takB tokP s), toU x = true := tak_all tokP s
      show VT (L (takB tokP s)) 4 0 (L (takB tokP s))
      rw [hc] at hall ⊢
      exact VT.tok c _ c2 hall
    rw [if_neg c2] at h
    by_cases c3 : (c.toNat : Int) = 34
    · rw [if_pos c3] at h
      have : c = 34 := u_eq c3
      subst this
      obtain ⟨q, a1, a2, a3, a4⟩ := quoted_inv h
      refine ⟨34 :: q, by rw [e, ← et, a1]; rfl, ?_⟩
      rw [a3, a4]; exact VT.quo q _ a2
    rw [if_neg c3] at h
    by_cases c4 : (c.toNat : Int) = 58
    · rw [if_pos c4] at h
      have : c = 58 := u_eq c4
      subst this
      unfold rdBytes at h
      have hw := L_tak baP (tl s)
      have hd := L_drp baP (tl s)
      have hsp := span_split (fun c : UInt8 => baP c.toNat) (L (tl s))
      have hall : ∀ x ∈ L (takB baP (tl s)), baU x = true := tak_all baP (tl s)
      rw [← hw, ← hd] at hsp
      cases e5 : atF (drpB baP (tl s)) 58 with
      | false => rw [e5, if_neg (by decide)] at h; cases h
      | true =>
        rw [e5, if_pos rfl] at h
        obtain ⟨rfl, rfl⟩ := Prod.mk.inj (Option.some.inj h)
        obtain ⟨c', r', f1, f2⟩ := atF_ex e5
        have : c' = 58 := u_eq f2
        subst this
        refine ⟨58 :: (L (takB baP (tl s)) ++ [58]), ?_, VT.byt _ hall⟩
        rw [L_tl, f1, e, ← et, ← hsp, f1]; simp
    rw [if_neg c4] at h
    by_cases c5 : (c.toNat : Int) = 63
    · rw [if_pos c5] at h
      have : c = 63 := u_eq c5
      subst this
      unfold rdBool at h
      cases e5 : atF (tl s) 49 with
      | true =>
        rw [e5, if_pos rfl] at h
        obtain ⟨rfl, rfl⟩ := Prod.mk.inj (Option.some.inj h)
        obtain ⟨c', r', f1, f2⟩ := atF_ex e5
        have : c' = 49 := u_eq f2
        subst this
        exact ⟨[63, 49], by rw [L_tl, f1, e, ← et, f1]; rfl, VT.one⟩
      | false =>
        rw [e5, if_neg (by decide)] at h
        cases e6 : atF (tl s) 48 with
        | true =>
          rw [e6, if_pos rfl] at h
          obtain ⟨rfl, rfl⟩ := Prod.mk.inj (Option.some.inj h)
          obtain ⟨c', r', f1, f2⟩ := atF_ex e6
          have : c' = 48 := u_eq f2
          subst this
          exact ⟨[63, 48], by rw [L_tl, f1, e, ← et, f1]; rfl, VT.zero⟩
        | false => rw [e6, if_neg (by decide)] at h; cases h
    rw [if_neg c5] at h; cases h
  rw [if_neg h0] at h; cases h
theorem key_first (c : UInt8) (h : smP c.toNat = true ∨ (c.toNat : Int) = 42) : keU c = true ∧ c ≠ 32 := by
  have := allU (fun c : UInt8 => !(smP c.toNat || decide ((c.toNat : Int) = 42)) || (keU c && !decide (c = 32))) (by decide +kernel) c
  simp only [Bool.or_eq_true, Bool.not_eq_true', Bool.or_eq_false_iff, decide_eq_false_iff_not, Bool.and_eq_true] at this
  rcases this with ⟨a, b⟩ | a
  · rcases h with h | h
    · rw [h] at a; cases a
    exact absurd h b
  exact a
theorem key_read (k r : List UInt8) (hk : KT k) (hr : ∀ c r', r = c :: r' → keU c = false) (s : ByteArray) (e : L s = k ++ r) : rdKey s = some (B k, B r) := by
  obtain ⟨c, w, rfl, h1, h2⟩ := hk
  have e1 : L s = c :: (w ++ r) := e
  unfold rdKey
  rw [if_pos ⟨size_pos e1, by rw [bt0 e1]; exact h1⟩]
  have k := takeW_app (fun c : UInt8 => keP c.toNat) (c :: w) r h2 hr
  have a1 : takB keP s = B (c :: w) := L_inj (by rw [L_tak, e, L_B]; exact k.1)
  have a2 : drpB keP s = B r := L_inj (by rw [L_drp, e, L_B]; exact k.2)
  rw [a1, a2]
theorem key_inv {s k t : ByteArray} (h : rdKey s = some (k, t)) : L s = L k ++ L t ∧ KT (L k) := by
  unfold rdKey at h
  by_cases h0 : 0 < s.size ∧ (smP (bt s 0) = true ∨ bt s 0 = 42)
  · rw [if_pos h0] at h
    obtain ⟨rfl, rfl⟩ := Prod.mk.inj (Option.some.inj h)
    obtain ⟨c, r, e⟩ := cons_of s h0.1
    have h1 := h0.2
    rw [bt0 e] at h1
    have hw := L_tak keP s
    have hd := L_drp keP s
    have hsp := span_split (fun c : UInt8 => keP c.toNat) (L s)
    rw [← hw, ← hd] at hsp
    have hall : ∀ x ∈ L (takB keP s), keU x = true := tak_all keP s
    refine ⟨hsp.symm, c, r.takeWhile (fun c => keP c.toNat), ?_, h1, hall⟩
    rw [hw, e, List.takeWhile_cons, show keP c.toNat = true from (key_first c h1).1]; simp
  rw [if_neg h0] at h; cases h
inductive PT : List UInt8 → List S60 → List S60 → Prop
  | nil (l : List S60) : PT [] l l
  | flag (b k u : List UInt8) (l l1 : List S60) (hb : ∀ c ∈ b, c = 32) (hk : KT k) (h : PT u (withP (B k) l ⟨B k, 6, 1, ⟨#[]⟩⟩) l1) : PT (59 :: (b ++ (k ++ u))) l l1
  | val (b k w u : List UInt8) (n i : Int) (t : List UInt8) (l l1 : List S60) (hb : ∀ c ∈ b, c = 32) (hk : KT k) (hv : VT w n i t) (h : PT u (withP (B k) l ⟨B k, n, i, B t⟩) l1) : PT (59 :: (b ++ (k ++ (61 :: (w ++ u))))) l l1
theorem PT.ends {u : List UInt8} {l l1 : List S60} (h : PT u l l1) : Ends u := by
  cases h with
  | nil => exact Ends.nil
  | flag => exact Ends.semi _
  | val => exact Ends.semi _
theorem spaces (b k r : List UInt8) (hb : ∀ c ∈ b, c = 32) (hk : KT k) (s : ByteArray) (e : L s = b ++ (k ++ r)) : L (drpB spP s) = k ++ r := by
  obtain ⟨c, w, rfl, h1, h2⟩ := hk
  rw [L_drp, e]
  refine (takeW_app (fun c : UInt8 => spP c.toNat) b ((c :: w) ++ r) (fun x hx => by rw [hb x hx]; decide) (fun c' r' h => ?_)).2
  obtain ⟨rfl, _⟩ := List.cons.inj h
  have := (key_first c h1).2
  unfold spP
  rw [beq_eq_false_iff_ne]
  intro k
  exact this (u_eq k)
theorem pt_read {u : List UInt8} {l l1 : List S60} (h : PT u l l1) : ∀ (d : Nat) (s : ByteArray), u.length < d → L s = u → pF d s l = some (l1, B []) := by
  induction h with
  | nil l =>
    intro d s hd e
    obtain ⟨d, rfl⟩ : ∃ d', d = d' + 1 := ⟨d - 1, by simp at hd; omega⟩
    rw [pF, atF_nil e, if_neg (by decide)]
    have : s = B [] := L_inj (by rw [e, L_B])
    rw [this]
  | flag b k u l l1 hb hk h ih =>
    intro d s hd e
    obtain ⟨d, rfl⟩ : ∃ d', d = d' + 1 := ⟨d - 1, by simp at hd; omega⟩
    have e1 : L (tl s) = b ++ (k ++ u) := by rw [L_tl, e]; rfl
    rw [pF, atF_cons e, if_pos (by decide), key_read k u hk (h.ends.not keyU_59) _ (spaces b k u hb hk _ e1)]
    simp only [Option.bind_some]
    have a : atF (B u) 61 = false := by
      cases hu : u with
      | nil => exact atF_nil (L_B []) 61
      | cons x u' => rw [atF_cons (L_B (x :: u'))]; exact decide_eq_false (end_ne x (h.ends x u' hu)).2
    rw [a, if_neg (by decide)]
    exact ih d (B u) (by simp at hd; omega) (L_B u)
  | val b k w u n i t l l1 hb hk hv h ih =>
    intro d s hd e
    obtain ⟨d, rfl⟩ : ∃ d', d = d' + 1 := ⟨d - 1, by simp at hd; omega⟩
    have e1 : L (tl s) = b ++ (k ++ (61 :: (w ++ u))) := by rw [L_tl, e]; rfl
    rw [pF, atF_cons e, if_pos (by decide), key_read k (61 :: (w ++ u)) hk (fun c r' h => by cases h; decide +kernel) _ (spaces b k _ hb hk _ e1)]
    simp only [Option.bind_some]
    rw [atF_cons (L_B (61 :: (w ++ u))), if_pos (by decide), value_read hv u h.ends _ (by rw [L_tl, L_B]; rfl)]
    simp only [Option.bind_some]
    exact ih d (B u) (by simp at hd; omega) (L_B u)
theorem all_of_take {q : UInt8 → Bool} (l : List UInt8) : ∀ c ∈ l.takeWhile q, q c = true := fun c hc => mem_takeWhile q l c hc
theorem pt_inv : ∀ (d : Nat) (s : ByteArray) (l l1 : List S60) (t : ByteArray), pF d s l = some (l1, t) → ∃ u, L s = u ++ L t ∧ PT u l l1 ∧ atF t 59 = false
  | 0, s, l, l1, t, h => by rw [pF] at h; cases h
  | d + 1, s, l, l1, t, h => by
    rw [pF] at h
    cases e : atF s 59 with
    | false =>
      rw [e, if_neg (by decide)] at h
      obtain ⟨rfl, rfl⟩ := Prod.mk.inj (Option.some.inj h)
      exact ⟨[], rfl, PT.nil _, e⟩
    | true =>
      rw [e, if_pos rfl] at h
      obtain ⟨c, r, e1, e2⟩ := atF_ex e
      have : c = 59 := u_eq e2
      subst this
      have et : L (tl s) = r := by rw [L_tl, e1]; rfl
      obtain ⟨⟨k, t1⟩, hk, h⟩ := Option.bind_eq_some_iff.1 h
      simp only [] at h
      obtain ⟨a1, a2⟩ := key_inv hk
      have hsp := span_split (fun c : UInt8 => spP c.toNat) (L (tl s))
      rw [← L_drp spP (tl s), a1] at hsp
      have hb : ∀ c ∈ (L (tl s)).takeWhile (fun c : UInt8 => spP c.toNat), c = 32 := by
        intro c hc
        have := all_of_take (q := fun c : UInt8 => spP c.toNat) (L (tl s)) c hc
        unfold spP at this
        exact u_eq (beq_iff_eq.1 this)
      generalize List.takeWhile (fun c : UInt8 => spP c.toNat) (L (tl s)) = bl at hsp hb
      cases e3 : atF t1 61 with
      | true =>
        rw [e3, if_pos rfl] at h
        obtain ⟨⟨v, t2⟩, hv, h⟩ := Option.bind_eq_some_iff.1 h
        obtain ⟨c', r', f1, f2⟩ := atF_ex e3
        have : c' = 61 := u_eq f2
        subst this
        have et1 : L (tl t1) = r' := by rw [L_tl, f1]; rfl
        obtain ⟨w, b1, b2⟩ := value_inv hv
        obtain ⟨u, g1, g2, g3⟩ := pt_inv d _ _ _ _ h
        simp only [] at g1 g2
        refine ⟨59 :: (bl ++ (L k ++ (61 :: (w ++ u)))), ?_, PT.val _ _ w u v.1 v.2.1 (L v.2.2) _ _ hb a2 b2 (by rw [B_L, B_L]; exact g2), g3⟩
        rw [e1, ← et, ← hsp, f1, ← et1, b1, g1]
        simp
      | false =>
        rw [e3, if_neg (by decide)] at h
        obtain ⟨u, g1, g2, g3⟩ := pt_inv d _ _ _ _ h
        refine ⟨59 :: (bl ++ (L k ++ u)), ?_, PT.flag _ _ u _ _ hb a2 (by rw [B_L]; exact g2), g3⟩
        rw [e1, ← et, ← hsp, g1]
        simp
def IT (u : List UInt8) (n i : Int) (t : List UInt8) (l : List S60) : Prop := ∃ a b, u = a ++ b ∧ VT a n i t ∧ PT b [] l
theorem next_read {u : List UInt8} {n i : Int} {t : List UInt8} {l : List S60} (h : IT u n i t l) (s : ByteArray) (e : L s = u) : rdNext s = some ((n, i, B t), l, B []) := by
  obtain ⟨a, b, rfl, hv, hp⟩ := h
  unfold rdNext
  rw [value_read hv b hp.ends s e]
  simp only [Option.bind_some]
  unfold rdParams
  rw [pt_read hp _ (B b) (by rw [size_L, L_B]; omega) (L_B b)]
  rfl
theorem next_inv {s : ByteArray} {v : Int × Int × ByteArray} {l : List S60} {t : ByteArray} (h : rdNext s = some (v, l, t)) : ∃ u, L s = u ++ L t ∧ IT u v.1 v.2.1 (L v.2.2) l ∧ atF t 59 = false := by
  unfold rdNext at h
  obtain ⟨⟨v', t1⟩, h1, h⟩ := Option.bind_eq_some_iff.1 h
  obtain ⟨⟨l', t2⟩, h2, h⟩ := Option.bind_eq_some_iff.1 h
  have h := Option.some.inj h
  simp only [Prod.mk.injEq] at h
  obtain ⟨rfl, rfl, rfl⟩ := h
  obtain ⟨a, a1, a2⟩ := value_inv h1
  obtain ⟨b, b1, b2, b3⟩ := pt_inv _ _ _ _ _ h2
  exact ⟨a ++ b, by rw [a1, b1]; simp, ⟨a, b, rfl, a2, b2⟩, b3⟩
end Go.Proofs.YtjdbiicjfpgjkaaGreatDoor.Pl
/- Chapter 5: values' text, there and back. -/
namespace Go.Proofs.YtjdbiicjfpgjkaaGreatDoor.Pl
open Go.RowKit Go.Proofs.YtjdbiicjfpgjkaaGreatDoor.Q Go.Proofs.YtjdbiicjfpgjkaaGreatDoor.Sf Go.Proofs.YtjdbiicjfpgjkaaGreatDoorW.PrintWords Go.Proofs.YtjdbiicjfpgjkaaGreatDoorW.PrintLast
set_option linter.unusedVariables false
set_option linter.unusedSimpArgs false
theorem numL_fold : ∀ (b : List UInt8) (acc : Nat), b.foldl (fun a c => a * 10 + (c.toNat - 48)) acc = acc * 10 ^ b.length + numL b
  | [], acc => by simp [numL]
  | c :: b, acc => by
    have h1 := numL_fold b (acc * 10 + (c.toNat - 48))
    have h2 := numL_fold b (0 * 10 + (c.toNat - 48))
    have e : numL (c :: b) = b.foldl (fun a c => a * 10 + (c.toNat - 48)) (0 * 10 + (c.toNat - 48)) := rfl
    rw [List.foldl_cons, h1, e, h2, List.length_cons, Nat.pow_succ]
    simp only [Nat.add_mul, Nat.zero_mul, Nat.zero_add, Nat.mul_assoc, Nat.mul_comm 10 (10 ^ b.length), Nat.add_assoc]
theorem numL_app (a b : List UInt8) : numL (a ++ b) = numL a * 10 ^ b.length + numL b := by
  have : numL (a ++ b) = b.foldl (fun a c => a * 10 + (c.toNat - 48)) (numL a) := by unfold numL; rw [List.foldl_append]
  rw [this, numL_fold]
theorem numL_bound (l : List UInt8) (h : ∀ c ∈ l, dgU c = true) : numL l < 10 ^ l.length := by
  have := num_bound l 0 h
  rw [Nat.zero_add, Nat.one_mul] at this
  exact this
theorem ofNat_dg (d : Nat) (h : d < 10) : dgU (UInt8.ofNat (48 + d)) = true ∧ (UInt8.ofNat (48 + d)).toNat - 48 = d := by
  have : ((List.range 10).all fun d => dgU (UInt8.ofNat (48 + d)) && decide ((UInt8.ofNat (48 + d)).toNat - 48 = d)) = true := by decide +kernel
  have := List.all_eq_true.1 this d (List.mem_range.2 h)
  simpa using this
theorem dec_all (u : Nat) : (∀ c ∈ Lib.decDigits u, dgU c = true) ∧ numL (Lib.decDigits u) = u := by
  induction u using Nat.strongRecOn with
  | _ u ih =>
    by_cases h : u < 10
    · rw [Lib.decDigits, dif_pos h]
      have := ofNat_dg u h
      exact ⟨fun c hc => by obtain rfl := List.mem_singleton.1 hc; exact this.1, by show 0 * 10 + ((UInt8.ofNat (48 + u)).toNat - 48) = u; rw [this.2]; omega⟩
    rw [Lib.decDigits, dif_neg h]
    have k := ih (u / 10) (by omega)
    have d := ofNat_dg (u % 10) (by omega)
    refine ⟨fun c hc => ?_, ?_⟩
    · rcases List.mem_append.1 hc with hc | hc
      · exact k.1 c hc
      obtain rfl := List.mem_singleton.1 hc; exact d.1
    rw [numL_app, k.2]
    have : numL [UInt8.ofNat (48 + u % 10)] = u % 10 := by show 0 * 10 + ((UInt8.ofNat (48 + u % 10)).toNat - 48) = u % 10; rw [d.2]; omega
    rw [this]; simp; omega
theorem dec_ne (u : Nat) : Lib.decDigits u ≠ [] := by
  rw [Lib.decDigits]; split <;> simp
theorem dec_len : ∀ (n u : Nat), u < 10 ^ (n + 1) → (Lib.decDigits u).length ≤ n + 1
  | 0, u, h => by rw [Lib.decDigits, dif_pos (by simpa using h)]; simp
  | n + 1, u, h => by
    rw [Lib.decDigits]
    split
    · simp
    have := dec_len n (u / 10) (by rw [Nat.pow_succ] at h; omega)
    simp; omega
def sgO (i : Int) : List UInt8 := if i < 0 then [45] else []
theorem sgO_or (i : Int) : sgO i = [] ∨ sgO i = [45] := by unfold sgO; split <;> simp
theorem sgO_val (i : Int) : sgV (sgO i) * (i.natAbs : Int) = i := by
  unfold sgO sgV; split <;> simp <;> omega
theorem itoa_L (i : Int) : L (itoaBA i) = sgO i ++ Lib.decDigits i.natAbs := by
  have : L (itoaBA i) = Lib.itoa i := by unfold L itoaBA; simp
  rw [this]; unfold Lib.itoa sgO
  split
  · rfl
  rw [show i.toNat = i.natAbs by omega]; rfl
theorem L_toList (s : ByteArray) : s.toList = L s := Lib.toList_data s
theorem L_nil : L (⟨#[]⟩ : ByteArray) = [] := rfl
theorem empty_of {t : ByteArray} (h : t.toList.isEmpty = true) : L t = [] := by rw [L_toList] at h; simpa using h
theorem int_back (i : Int) (h : -999999999999999 ≤ i ∧ i ≤ 999999999999999) : VT (L (itoaBA i)) 1 i [] := by
  have hd := dec_all i.natAbs
  have := VT.int (sgO i) (Lib.decDigits i.natAbs) (sgO_or i) (dec_ne _) hd.1 (dec_len 14 _ (by omega))
  rw [hd.2, sgO_val] at this
  rw [itoa_L]; exact this
def frL (r : Nat) : List UInt8 := let z := Lib.trimRightB [UInt8.ofNat (48 + r / 100), UInt8.ofNat (48 + r / 10 % 10), UInt8.ofNat (48 + r % 10)] 48; if z = [] then [48] else z
theorem fr_all : ((List.range 1000).all fun r => (frL r).all dgU && (decide (frL r ≠ []) && (decide ((frL r).length ≤ 3) && decide (numL (frL r ++ zerL (frL r).length) = r)))) = true := by decide +kernel
theorem fr_at (r : Nat) (h : r < 1000) : (∀ c ∈ frL r, dgU c = true) ∧ frL r ≠ [] ∧ (frL r).length ≤ 3 ∧ numL (frL r ++ zerL (frL r).length) = r := by
  have := List.all_eq_true.1 fr_all r (List.mem_range.2 h)
  simp only [Bool.and_eq_true, decide_eq_true_eq, List.all_eq_true] at this
  exact ⟨this.1, this.2.1, this.2.2.1, this.2.2.2⟩
theorem dec_thousand (r : Nat) (h : r < 1000) : Lib.decDigits (1000 + r) = [49, UInt8.ofNat (48 + r / 100), UInt8.ofNat (48 + r / 10 % 10), UInt8.ofNat (48 + r % 10)] := by
  rw [Lib.decDigits, dif_neg (by omega), Lib.decDigits, dif_neg (by omega), Lib.decDigits, dif_neg (by omega), Lib.decDigits, dif_pos (by omega)]
  rw [show (1000 + r) / 10 / 10 / 10 = 1 by omega, show (1000 + r) / 10 / 10 % 10 = r / 100 by omega, show (1000 + r) / 10 % 10 = r / 10 % 10 by omega, show (1000 + r) % 10 = r % 10 by omega]
  rfl
theorem trimZ_L (s : ByteArray) : L (trimZ s) = Lib.trimRightB (L s) 48 := by unfold trimZ L; simp
theorem frac_L (m : Nat) : L (fracB m) = frL (m % 1000) := by
  have h1 : L (itoaBA (1000 + Int.tmod (m : Int) 1000)) = Lib.decDigits (1000 + m % 1000) := by
    have e : (1000 + Int.tmod (m : Int) 1000) = ((1000 + m % 1000 : Nat) : Int) := by rw [Int.tmod_eq_emod_of_nonneg (by omega)]; omega
    rw [e, itoa_L]
    have : sgO ((1000 + m % 1000 : Nat) : Int) = [] := by unfold sgO; rw [if_neg (by omega)]
    rw [this, Int.natAbs_natCast]; rfl
  have h2 : L (tailZ (m : Int)) = Lib.trimRightB [UInt8.ofNat (48 + m % 1000 / 100), UInt8.ofNat (48 + m % 1000 / 10 % 10), UInt8.ofNat (48 + m % 1000 % 10)] 48 := by
    unfold tailZ
    rw [trimZ_L]
    have : L ((itoaBA (1000 + Int.tmod (m : Int) 1000)).extract 1 (itoaBA (1000 + Int.tmod (m : Int) 1000)).size) = (L (itoaBA (1000 + Int.tmod (m : Int) 1000))).tail := L_tl _
    rw [this, h1, dec_thousand _ (by omega)]; rfl
  unfold fracB frL
  simp only []
  by_cases hz : 0 < (tailZ (m : Int)).size
  · rw [if_pos hz]
    obtain ⟨c, r, e⟩ := cons_of _ hz
    rw [← h2, if_neg (by rw [e]; simp)]
  rw [if_neg hz]
  have e : L (tailZ (m : Int)) = [] := by rw [size_L] at hz; exact List.length_eq_zero_iff.1 (by omega)
  rw [← h2, if_pos e]; rfl
theorem dec_L (i : Int) : L (decB i) = sgO i ++ (Lib.decDigits (i.natAbs / 1000) ++ 46 :: frL (i.natAbs % 1000)) := by
  have hm : magn i = (i.natAbs : Int) := by unfold magn; split <;> omega
  have hs : L (signB i) = sgO i := by unfold signB sgO; split <;> rfl
  unfold decB
  rw [L_app, L_app, L_app, hs, hm, frac_L, itoa_L]
  have e : Int.tdiv (i.natAbs : Int) 1000 = ((i.natAbs / 1000 : Nat) : Int) := by rw [Int.tdiv_eq_ediv_of_nonneg (by omega)]; omega
  have : sgO (((i.natAbs / 1000 : Nat)) : Int) = [] := by unfold sgO; rw [if_neg (by omega)]
  rw [e, this, Int.natAbs_natCast]
  show (sgO i ++ ([] ++ Lib.decDigits (i.natAbs / 1000))) ++ [46] ++ frL (i.natAbs % 1000) = _
  simp
theorem zer_len (n : Nat) (h : n ≤ 3) : (zerL n).length = 3 - n := by unfold zerL; simp
theorem dec_back (i : Int) (h : -999999999999999 ≤ i ∧ i ≤ 999999999999999) : VT (L (decB i)) 2 i [] := by
  have hd := dec_all (i.natAbs / 1000)
  have hf := fr_at (i.natAbs % 1000) (by omega)
  have := VT.dec (sgO i) (Lib.decDigits (i.natAbs / 1000)) (frL (i.natAbs % 1000)) (sgO_or i) (dec_ne _) hd.1 (dec_len 11 _ (by omega)) hf.2.1 hf.1 hf.2.2.1
  have hn : numL (Lib.decDigits (i.natAbs / 1000) ++ (frL (i.natAbs % 1000) ++ zerL (frL (i.natAbs % 1000)).length)) = i.natAbs := by
    rw [numL_app, hd.2, hf.2.2.2, List.length_append, zer_len _ hf.2.2.1]
    rw [show (frL (i.natAbs % 1000)).length + (3 - (frL (i.natAbs % 1000)).length) = 3 by have := hf.2.2.1; omega]
    omega
  rw [hn, sgO_val] at this
  rw [dec_L]; exact this
def esc (t : List UInt8) : List UInt8 := t.flatMap fun c => if c.toNat = 34 ∨ c.toNat = 92 then [92, c] else [c]
def Plain (t : List UInt8) : Prop := ∀ c ∈ t, 32 ≤ c.toNat ∧ c.toNat ≤ 126
theorem q_esc : ∀ t : List UInt8, Plain t → QT (esc t ++ [34]) t
  | [], _ => QT.stop
  | c :: t, h => by
    have ih := q_esc t (fun x hx => h x (List.mem_cons_of_mem _ hx))
    have hc := h c (List.mem_cons_self ..)
    unfold esc
    rw [List.flatMap_cons]
    by_cases k : c.toNat = 34 ∨ c.toNat = 92
    · rw [if_pos k]; exact QT.esc c _ t k ih
    rw [if_neg k]; exact QT.plain c _ t hc.1 hc.2 (fun e => k (Or.inl e)) (fun e => k (Or.inr e)) ih
theorem esc_len (t : List UInt8) : (esc t).length ≤ 2 * t.length := by
  induction t with
  | nil => simp [esc]
  | cons c t ih =>
    have e : esc (c :: t) = (if c.toNat = 34 ∨ c.toNat = 92 then [92, c] else [c]) ++ esc t := by unfold esc; rw [List.flatMap_cons]
    rw [e, List.length_append, List.length_cons]
    have : (if c.toNat = 34 ∨ c.toNat = 92 then [92, c] else [c]).length ≤ 2 := by split <;> simp
    omega
theorem bt_get (t : ByteArray) (k : Nat) (h : k < (L t).length) : bt t k = ((L t)[k].toNat : Int) := bt_list t k h
theorem take_snoc {α : Type} (l : List α) (k : Nat) (h : k < l.length) : l.take (k + 1) = l.take k ++ [l[k]] := by
  rw [List.take_add_one, List.getElem?_eq_getElem h]; rfl
theorem qOut_eq (t : ByteArray) : ∀ k : Nat, k ≤ (L t).length → Plain ((L t).take k) → qOut t k = some (B (34 :: esc ((L t).take k)))
  | 0, _, _ => by rw [qOut]; rfl
  | k + 1, hk, hp => by
    have hk' : k < (L t).length := by omega
    rw [take_snoc _ _ hk'] at hp
    have ih := qOut_eq t k (by omega) (fun c hc => hp c (List.mem_append.2 (Or.inl hc)))
    have hc := hp _ (List.mem_append.2 (Or.inr (List.mem_singleton.2 rfl)))
    rw [qOut, ih]
    simp only [Option.bind_some]
    rw [bt_get t k hk', if_neg (by omega), wiQ, take_snoc _ _ hk']
    congr 1
    apply L_inj
    rw [L_app, L_B]
    have e1 : L (strOfNums [((L t)[k].toNat : Int)]) = [(L t)[k]] := by
      have := num_app [] (L t)[k] [] rfl
      simpa using this
    have e2 : esc ((L t).take k ++ [(L t)[k]]) = esc ((L t).take k) ++ (if (L t)[k].toNat = 34 ∨ (L t)[k].toNat = 92 then [92, (L t)[k]] else [(L t)[k]]) := by
      unfold esc; rw [List.flatMap_append, List.flatMap_singleton]
    rw [e1, e2]
    by_cases z : (L t)[k].toNat = 34 ∨ (L t)[k].toNat = 92
    · rw [decide_eq_true z, if_pos rfl, if_pos z, L_app, L_B]
      show (34 :: esc ((L t).take k)) ++ [92] ++ [(L t)[k]] = _
      simp
    rw [decide_eq_false z, if_neg (by decide), if_neg z, L_B]; simp
theorem qOut_bad (t : ByteArray) (j : Nat) (hj : j < (L t).length) (h : ¬ (32 ≤ (L t)[j].toNat ∧ (L t)[j].toNat ≤ 126)) : qOut t t.size = none := by
  refine qOut_none t (j + 1) ?_ t.size (by rw [size_L]; omega)
  rw [qOut, bt_get t j hj]
  cases qOut t j with
  | none => rfl
  | some o => rw [Option.bind_some, if_pos (by omega)]
theorem text_plain (t : ByteArray) (i : Int) (h : Plain (L t)) : textF i t = (B (34 :: (esc (L t) ++ [34])), i == 0) := by
  unfold textF
  rw [size_L, qOut_eq t _ (Nat.le_refl _) (by rw [List.take_length]; exact h), List.take_length]
  simp only []
  have : (B (34 :: esc (L t)) ++ (⟨#[34]⟩ : ByteArray)) = B (34 :: (esc (L t) ++ [34])) := by
    apply L_inj
    rw [L_app, L_B, L_B]
    rfl
  rw [this]
theorem text_bad (t : ByteArray) (i : Int) (h : ¬ Plain (L t)) : textF i t = (⟨#[]⟩, false) := by
  unfold textF
  have : ∃ j, ∃ hj : j < (L t).length, ¬ (32 ≤ (L t)[j].toNat ∧ (L t)[j].toNat ≤ 126) := by
    refine Classical.byContradiction fun k => h fun c hc => ?_
    obtain ⟨j, hj, rfl⟩ := List.mem_iff_getElem.1 hc
    exact Classical.byContradiction fun z => k ⟨j, hj, z⟩
  obtain ⟨j, hj, hb⟩ := this
  rw [qOut_bad t j hj hb]
theorem and_odd (x : Nat) (h : x &&& 18446744073709551614 = 0) (hx : x < 18446744073709551616) : x < 2 := by
  have h1 : (x &&& 18446744073709551614) >>> 1 = 0 := by rw [h]; rfl
  rw [Nat.shiftRight_and_distrib] at h1
  have h2 : (18446744073709551614 : Nat) >>> 1 = 2 ^ 63 - 1 := by decide
  rw [h2, Nat.and_two_pow_sub_one_eq_mod, show x >>> 1 = x / 2 from rfl] at h1
  omega
theorem flag_of (i : Int) (h : -999999999999999 ≤ i ∧ i ≤ 999999999999999) (hb : (Go.bits .andNot .i64 i 1 == 0) = true) : i = 0 ∨ i = 1 := by
  have hb := beq_iff_eq.1 hb
  have e : Go.bits .andNot .i64 i 1 = IntKind.i64.wrap ((BitVec.ofInt 64 i &&& ~~~BitVec.ofInt 64 1).toNat : Int) := rfl
  rw [e] at hb
  have hx : (BitVec.ofInt 64 i).toNat = (i % 18446744073709551616).toNat := by rw [BitVec.toNat_ofInt]; rfl
  have hy : (~~~BitVec.ofInt 64 1).toNat = 18446744073709551614 := by decide
  rw [BitVec.toNat_and, hy, hx] at hb
  have hl : (i % 18446744073709551616).toNat < 18446744073709551616 := by omega
  have hz : (i % 18446744073709551616).toNat &&& 18446744073709551614 < 18446744073709551616 := Nat.lt_of_le_of_lt Nat.and_le_left hl
  have := and_odd _ ?_ hl
  · omega
  generalize (i % 18446744073709551616).toNat &&& 18446744073709551614 = m at hb hz
  rw [IntKind.wrap_i64] at hb
  first | omega | (split at hb <;> omega)
end Go.Proofs.YtjdbiicjfpgjkaaGreatDoor.Pl
/- Chapter 5: values, parameters and items, there and back. -/
namespace Go.Proofs.YtjdbiicjfpgjkaaGreatDoor.Pl
open Go.RowKit Go.Proofs.YtjdbiicjfpgjkaaGreatDoor.Q Go.Proofs.YtjdbiicjfpgjkaaGreatDoor.Sf Go.Proofs.YtjdbiicjfpgjkaaGreatDoorW.PrintWords Go.Proofs.YtjdbiicjfpgjkaaGreatDoorW.PrintLast
set_option linter.unusedVariables false
set_option linter.unusedSimpArgs false
theorem eq_nil {t : ByteArray} (h : L t = []) : t = ⟨#[]⟩ := L_inj (h.trans L_nil.symm)
theorem whole_of {s : ByteArray} {n i : Int} {t : List UInt8} (h : VT (L s) n i t) (hz : s.size ≤ 2199023255552) (m : Int) : sfitem_whole.f s m = some (decide (n = m)) := by
  have hn := next_read ⟨L s, [], by simp, h, PT.nil []⟩ s rfl
  unfold sfitem_whole.f sfitem_Next.f
  rw [if_pos hz, hn]
  simp only [Option.bind_some]
  rw [if_pos trivial, if_pos (by rw [L_toList, L_B])]
  by_cases e : n = m
  · rw [if_pos e, decide_eq_true e]; rfl
  rw [if_neg e, decide_eq_false e]
theorem pt_some {u : List UInt8} {l l1 : List S60} (h : PT u l l1) : l ≠ [] → l1 ≠ [] := by
  induction h with
  | nil => exact id
  | flag b k u l l1 hb hk h ih => exact fun hl => ih (by unfold withP; split <;> simp [hl])
  | val b k w u n i t l l1 hb hk hv h ih => exact fun hl => ih (by unfold withP; split <;> simp [hl])
theorem with_nil (k : ByteArray) (p : S60) : withP k [] p = [p] := rfl
theorem pt_none {u : List UInt8} (h : PT u [] []) : u = [] := by
  cases h with
  | nil => rfl
  | flag b k u l l1 hb hk h => exact absurd rfl (pt_some h (by rw [with_nil]; simp))
  | val b k w u n i t l l1 hb hk hv h => exact absurd rfl (pt_some h (by rw [with_nil]; simp))
theorem whole_inv {s : ByteArray} {m : Int} (h : sfitem_whole.f s m = some true) : ∃ i t, VT (L s) m i t := by
  unfold sfitem_whole.f sfitem_Next.f at h
  by_cases hz : s.size ≤ 2199023255552
  · rw [if_pos hz] at h
    cases hn : rdNext s with
    | none => rw [hn] at h; simp at h
    | some x =>
      obtain ⟨v, l, t⟩ := x
      rw [hn] at h
      simp only [Option.bind_some] at h
      rw [if_pos trivial] at h
      by_cases ht : t.toList = ([] : List UInt8)
      · rw [if_pos ht] at h
        by_cases hm : v.1 = m
        · rw [if_pos hm] at h
          have hl : l = [] := by simpa using h
          obtain ⟨u, a1, ⟨a, b, rfl, hv, hp⟩, a3⟩ := next_inv hn
          rw [L_toList] at ht
          rw [ht, List.append_nil] at a1
          subst hl
          have hb : b = [] := pt_none hp
          subst hb
          rw [List.append_nil] at a1
          refine ⟨v.2.1, L v.2.2, ?_⟩
          rw [a1, ← hm]; exact hv
        rw [if_neg hm] at h; cases h
      rw [if_neg ht] at h; simp at h
  rw [if_neg hz] at h; simp at h
theorem tok_inv {u : List UInt8} {i : Int} {t : List UInt8} (h : VT u 4 i t) : i = 0 ∧ t = u := by
  generalize hn : (4 : Int) = n at h
  cases h <;> first | exact ⟨rfl, rfl⟩ | (exfalso; revert hn; decide)
theorem byt_inv {u : List UInt8} {i : Int} {t : List UInt8} (h : VT u 5 i t) : i = 0 ∧ u = 58 :: (t ++ [58]) := by
  generalize hn : (5 : Int) = n at h
  cases h <;> first | exact ⟨rfl, rfl⟩ | (exfalso; revert hn; decide)
theorem value_back (k : ByteArray) (n i : Int) (t o : ByteArray) (h : sfitem_value.f k n i t = some (o, true)) : VT (L o) n i (L t) := by
  unfold sfitem_value.f at h
  by_cases hz : t.size ≤ 2199023255540
  · rw [if_neg (by omega)] at h
    by_cases hi : i < -999999999999999 ∨ 999999999999999 < i
    · rw [if_pos hi] at h; simp at h
    rw [if_neg hi] at h
    have hi' : -999999999999999 ≤ i ∧ i ≤ 999999999999999 := by omega
    by_cases h1 : n = 1
    · rw [if_pos h1] at h
      have h := Option.some.inj h
      simp only [Prod.mk.injEq] at h
      rw [h1, ← h.1, empty_of h.2]; exact int_back i hi'
    rw [if_neg h1] at h
    by_cases h2 : n = 2
    · rw [if_pos h2] at h
      have h := Option.some.inj h
      simp only [Prod.mk.injEq] at h
      rw [h2, ← h.1, empty_of h.2]; exact dec_back i hi'
    rw [if_neg h2] at h
    by_cases h6 : n = 6
    · rw [if_pos h6] at h
      by_cases ht : (t.toList == ([] : List UInt8)) = true
      · rw [if_pos ht] at h
        have h := Option.some.inj h
        simp only [Prod.mk.injEq] at h
        rw [h6, ← h.1, show L t = [] by rw [L_toList] at ht; simpa using ht]
        rcases flag_of i hi' h.2 with rfl | rfl
        · rw [itoa_0]; exact VT.zero
        rw [itoa_1]; exact VT.one
      rw [if_neg ht] at h; simp at h
    rw [if_neg h6] at h
    by_cases h3 : n = 3
    · rw [if_pos h3] at h
      have h := Option.some.inj h
      by_cases hp : Plain (L t)
      · rw [text_plain t i hp] at h
        simp only [Prod.mk.injEq, beq_iff_eq] at h
        rw [h3, ← h.1, h.2, L_B]
        exact VT.quo _ _ (q_esc _ hp)
      rw [text_bad t i hp] at h; simp at h
    rw [if_neg h3] at h
    by_cases h4 : n = 4
    · rw [if_pos h4] at h
      by_cases h0 : i = 0
      · rw [if_pos h0] at h
        obtain ⟨b, hb, h⟩ := Option.bind_eq_some_iff.1 h
        have h := Option.some.inj h
        simp only [Prod.mk.injEq] at h
        obtain ⟨rfl, rfl⟩ := h
        obtain ⟨i', t', hv⟩ := whole_inv hb
        obtain ⟨rfl, rfl⟩ := tok_inv hv
        rw [h4, h0]; exact hv
      rw [if_neg h0] at h; simp at h
    rw [if_neg h4] at h
    by_cases h5 : n = 5
    · rw [if_pos h5] at h
      by_cases h0 : i = 0
      · rw [if_pos h0] at h
        obtain ⟨b, hb, h⟩ := Option.bind_eq_some_iff.1 h
        have h := Option.some.inj h
        simp only [Prod.mk.injEq] at h
        obtain ⟨rfl, rfl⟩ := h
        obtain ⟨i', t', hv⟩ := whole_inv hb
        have e : L (((⟨#[58]⟩ : ByteArray) ++ t) ++ (⟨#[58]⟩ : ByteArray)) = 58 :: (L t ++ [58]) := by rw [L_app, L_app]; rfl
        rw [e] at hv ⊢
        obtain ⟨rfl, hu⟩ := byt_inv hv
        have : L t = t' := by simpa using hu
        rw [this] at hv ⊢
        rw [h5, h0]; exact hv
      rw [if_neg h0] at h; simp at h
    rw [if_neg h5] at h; simp at h
  rw [if_pos hz] at h; cases h
end Go.Proofs.YtjdbiicjfpgjkaaGreatDoor.Pl
/- Chapter 5: an item is the same as itself; how many parameters a text has. -/
namespace Go.Proofs.YtjdbiicjfpgjkaaGreatDoor.Pl
open Go.RowKit Go.Proofs.YtjdbiicjfpgjkaaGreatDoor.Q Go.Proofs.YtjdbiicjfpgjkaaGreatDoor.Sf Go.Proofs.YtjdbiicjfpgjkaaGreatDoorW.PrintWords Go.Proofs.YtjdbiicjfpgjkaaGreatDoorW.PrintLast
set_option linter.unusedVariables false
set_option linter.unusedSimpArgs false
theorem wrap_next (j : Nat) (h : j ≤ 100000) : wrap64 ((j : Int) + 1) = ((j + 1 : Nat) : Int) := by
  unfold wrap64; omega
end Go.Proofs.YtjdbiicjfpgjkaaGreatDoor.Pl
/- Chapter 5: parameters' text, there and back. -/
namespace Go.Proofs.YtjdbiicjfpgjkaaGreatDoor.Pl
open Go.RowKit Go.Proofs.YtjdbiicjfpgjkaaGreatDoor.Q Go.Proofs.YtjdbiicjfpgjkaaGreatDoor.Sf Go.Proofs.YtjdbiicjfpgjkaaGreatDoorW.PrintWords Go.Proofs.YtjdbiicjfpgjkaaGreatDoorW.PrintLast
set_option linter.unusedVariables false
set_option linter.unusedSimpArgs false
theorem s38_ext {p : S60} {a : ByteArray} {b c : Int} {d : ByteArray} (h0 : p.f0 = a) (h1 : p.f1 = b) (h2 : p.f2 = c) (h3 : p.f3 = d) : p = ⟨a, b, c, d⟩ := by
  obtain ⟨x, y, z, u⟩ := p; simp only at h0 h1 h2 h3; subst h0 h1 h2 h3; rfl
theorem rd_at5 (l : List S60) (j : Nat) (h : j < l.length) : rd_T60 l (j : Int) = l[j] := by
  unfold rd_T60; simp [List.getD_eq_getElem?_getD, h]
theorem with_new (k : ByteArray) (l : List S60) (p : S60) (h : ∀ q ∈ l, q.f0 ≠ k) : withP k l p = l ++ [p] := by
  refine withP_none k l p fun j hj => ?_
  rw [rd_at5 l j hj]; exact h _ (List.getElem_mem hj)
theorem flag_inv {u : List UInt8} {i : Int} {t : List UInt8} (h : VT u 6 i t) (hi : i ≠ 0) : i = 1 ∧ t = [] := by
  generalize hn : (6 : Int) = n at h
  cases h <;> first | exact ⟨rfl, rfl⟩ | exact absurd rfl hi | (exfalso; revert hn; decide)
theorem inL_iff (s : ByteArray) (seen : List ByteArray) : inL s seen = true ↔ s ∈ seen := by
  unfold inL
  rw [List.any_eq_true]
  constructor
  · rintro ⟨y, hy, e⟩; rw [← of_decide_eq_true e]; exact hy
  intro h; exact ⟨s, h, by simp⟩
theorem key_all {k : ByteArray} (h1 : (keyF k).2.2 = 0) (h2 : (keyF k).2.1.toList = []) : KT (L k) := by
  unfold keyF at h1 h2
  cases hk : rdKey k with
  | none => rw [hk] at h1; simp at h1
  | some x =>
    obtain ⟨a, t⟩ := x
    rw [hk] at h2
    simp only [] at h2
    obtain ⟨b1, b2⟩ := key_inv hk
    rw [L_toList] at h2
    rw [h2, List.append_nil] at b1
    rw [b1]; exact b2
theorem key_ok {k : ByteArray} (h : KT (L k)) : (keyF k).2.2 = 0 ∧ (keyF k).2.1.toList = [] := by
  have := key_read (L k) [] h (fun c r' e => by cases e) k (by simp)
  unfold keyF
  rw [this]
  exact ⟨rfl, by rw [L_toList, L_B]⟩
theorem bad_not {p : S60} {b : Bool} {seen : List ByteArray} (h : badP p b seen = false) : KT (L p.f0) ∧ b = true ∧ p.f0 ∉ seen := by
  unfold badP at h
  simp only [Bool.or_eq_false_iff, bne_eq_false_iff_eq, Bool.not_eq_false'] at h
  refine ⟨key_all h.1 h.2.1, h.2.2.1, fun k => ?_⟩
  rw [(inL_iff _ _).2 k] at h
  exact absurd h.2.2.2 (by decide)
theorem bad_of {p : S60} {b : Bool} {seen : List ByteArray} (h1 : KT (L p.f0)) (h2 : b = true) (h3 : p.f0 ∉ seen) : badP p b seen = false := by
  have k := key_ok h1
  have : inL p.f0 seen = false := by
    cases e : inL p.f0 seen with
    | false => rfl
    | true => exact absurd ((inL_iff _ _).1 e) h3
  unfold badP
  rw [k.1, k.2, h2, this]; rfl
theorem part_L (p : S60) (o v : ByteArray) : L (partT p o v) = L o ++ (if p.f1 ≠ 6 ∨ p.f2 = 0 then 59 :: (L p.f0 ++ (61 :: L v)) else 59 :: L p.f0) := by
  unfold partT
  split
  · rw [L_app, L_app, L_app, L_app]
    show (L o ++ ([59] ++ L p.f0)) ++ ([61] ++ L v) = _
    simp
  rw [L_app, L_app]
  show L o ++ ([59] ++ L p.f0) = _
  simp
theorem tail_back : ∀ (ps : List S60) (seen : List ByteArray) (o o' : ByteArray) (l0 : List S60), tailF ps seen o = some (o', 0) → (∀ q ∈ l0, q.f0 ∈ seen) → ∃ u, L o' = L o ++ u ∧ PT u l0 (l0 ++ ps)
  | [], seen, o, o', l0, h, hs => by
    rw [tailF] at h
    have h := Option.some.inj h
    simp only [Prod.mk.injEq] at h
    exact ⟨[], by rw [h.1]; simp, by rw [List.append_nil]; exact PT.nil l0⟩
  | p :: ps, seen, o, o', l0, h, hs => by
    rw [tailF] at h
    obtain ⟨⟨v, b⟩, hv, h⟩ := Option.bind_eq_some_iff.1 h
    simp only [] at h
    by_cases hz : p.f0.size ≤ 2199023255552 ∧ o.size ≤ 1152921504606846976 ∧ v.size ≤ 1152921504606846976
    · rw [if_neg (by simpa using hz)] at h
      cases hb : badP p b seen with
      | true => rw [hb, if_pos rfl] at h; simp at h
      | false =>
        rw [hb, if_neg (by decide)] at h
        obtain ⟨b1, b2, b3⟩ := bad_not hb
        subst b2
        have hnew : ∀ q ∈ l0, q.f0 ≠ p.f0 := fun q hq e => b3 (e ▸ hs q hq)
        have ih := tail_back ps (p.f0 :: seen) (partT p o v) o' (l0 ++ [p]) h (by
          intro q hq
          rcases List.mem_append.1 hq with hq | hq
          · exact List.mem_cons_of_mem _ (hs q hq)
          rw [List.mem_singleton.1 hq]; exact List.mem_cons_self ..)
        obtain ⟨u, hu, hp⟩ := ih
        rw [part_L] at hu
        rw [List.append_assoc, List.singleton_append] at hp
        have hvt := value_back p.f0 p.f1 p.f2 p.f3 v hv
        by_cases hf : p.f1 ≠ 6 ∨ p.f2 = 0
        · rw [if_pos hf] at hu
          have ew : withP (B (L p.f0)) l0 ⟨B (L p.f0), p.f1, p.f2, B (L p.f3)⟩ = l0 ++ [p] := by
            rw [B_L, B_L]; exact with_new _ _ _ hnew
          have := PT.val [] (L p.f0) (L v) u p.f1 p.f2 (L p.f3) l0 (l0 ++ p :: ps) (fun c hc => by cases hc) b1 hvt (by rw [ew]; exact hp)
          exact ⟨_, by rw [hu]; simp, this⟩
        rw [if_neg hf] at hu
        have h6 : p.f1 = 6 := Classical.byContradiction fun k => hf (Or.inl k)
        rw [h6] at hvt
        obtain ⟨e1, e2⟩ := flag_inv hvt (fun k => hf (Or.inr k))
        have ep : p = ⟨p.f0, 6, 1, ⟨#[]⟩⟩ := s38_ext rfl h6 e1 (eq_nil e2)
        have ew : withP (B (L p.f0)) l0 ⟨B (L p.f0), 6, 1, ⟨#[]⟩⟩ = l0 ++ [p] := by
          rw [B_L, ← ep]; exact with_new _ _ _ hnew
        have := PT.flag [] (L p.f0) u l0 (l0 ++ p :: ps) (fun c hc => by cases hc) b1 (by rw [ew]; exact hp)
        exact ⟨_, by rw [hu]; simp, this⟩
    exact absurd h (by rw [if_pos (by simpa using hz)]; simp)
end Go.Proofs.YtjdbiicjfpgjkaaGreatDoor.Pl
/- Chapter 5: what the document's own reader gives is what the program's reader gives. -/
namespace Go.Proofs.YtjdbiicjfpgjkaaGreatDoor.Pl
open Go.RowKit Go.Proofs.YtjdbiicjfpgjkaaGreatDoor.Q Go.Proofs.YtjdbiicjfpgjkaaGreatDoor.Sf Go.Proofs.YtjdbiicjfpgjkaaGreatDoorW.PrintWords Go.Proofs.YtjdbiicjfpgjkaaGreatDoorW.PrintLast
set_option linter.unusedVariables false
set_option linter.unusedSimpArgs false
theorem up {α : Type} {f : Nat → Option α} (hm : ∀ k, LeO (f k) (f (k + 1))) {k0 : Nat} {r : α} (h : f k0 = some r) : ∀ k, k0 ≤ k → f k = some r := by
  intro k hk
  induction k with
  | zero => obtain rfl : k0 = 0 := by omega
            exact h
  | succ k ih =>
    rcases Nat.lt_or_ge k k0 with c | c
    · obtain rfl : k0 = k + 1 := by omega
      exact h
    exact hm k r (ih c)
theorem bt_u (s : ByteArray) (j : Nat) (h : j < s.size) : ∃ c : UInt8, bt s (j : Int) = (c.toNat : Int) := by
  have hl : j < s.data.toList.length := by rw [← Lib.size_eq]; exact h
  exact ⟨_, bt_list s j hl⟩
theorem letter_u (c : UInt8) : glacisref01_Letter.f c.toNat = some (leP c.toNat) :=
  of_decide_eq_true (allU (fun c : UInt8 => decide (glacisref01_Letter.f c.toNat = some (leP c.toNat))) (by decide +kernel) c)
theorem digit_u (c : UInt8) : glacisref01_Digit.f c.toNat = some (dgP c.toNat) :=
  of_decide_eq_true (allU (fun c : UInt8 => decide (glacisref01_Digit.f c.toNat = some (dgP c.toNat))) (by decide +kernel) c)
theorem base_u (c : UInt8) : glacisref05_base.f c.toNat = some (baP c.toNat) :=
  of_decide_eq_true (allU (fun c : UInt8 => decide (glacisref05_base.f c.toNat = some (baP c.toNat))) (by decide +kernel) c)
theorem tokens_u (c : UInt8) (k : Nat) (hk : 16 ≤ k) : glacisref05_tokens.f k c.toNat = some (tokP c.toNat) := by
  have h := of_decide_eq_true (allU (fun c : UInt8 => decide (glacisref05_tokens.f 16 c.toNat = some (tokP c.toNat))) (by decide +kernel) c)
  exact up (f := fun k => glacisref05_tokens.f k c.toNat) (fun k => glacisref05_tokens.mono _ k) h k hk
theorem small_u (c : UInt8) : glacisref05_small.f c.toNat true = some (smP c.toNat || decide ((c.toNat : Int) = 42)) :=
  of_decide_eq_true (allU (fun c : UInt8 => decide (glacisref05_small.f c.toNat true = some (smP c.toNat || decide ((c.toNat : Int) = 42)))) (by decide +kernel) c)
theorem small_v (c : UInt8) : glacisref05_small.f c.toNat false = some (keP c.toNat) :=
  of_decide_eq_true (allU (fun c : UInt8 => decide (glacisref05_small.f c.toNat false = some (keP c.toNat))) (by decide +kernel) c)
theorem L_ext (s : ByteArray) (a : Nat) : L (s.extract a s.size) = (L s).drop a := by
  unfold L
  rw [Lib.extract_data, Lib.size_eq, List.take_of_length_le (by simp)]
theorem L_ext0 (s : ByteArray) (a : Nat) : L (s.extract 0 a) = (L s).take a := by
  unfold L
  rw [Lib.extract_data]; simp
theorem L_extm (s : ByteArray) (a b : Nat) : L (s.extract a b) = ((L s).drop a).take (b - a) := by
  unfold L
  rw [Lib.extract_data]
theorem bt_L (s : ByteArray) (j : Nat) (h : j < (L s).length) : bt s (j : Int) = ((L s)[j].toNat : Int) := bt_list s j h
theorem drop_cons (l : List UInt8) (n : Nat) (h : n < l.length) : l.drop n = l[n] :: l.drop (n + 1) := List.drop_eq_getElem_cons h
theorem atF_ext (s : ByteArray) (n : Nat) (c : Int) : atF (s.extract n s.size) c = decide (n < s.size ∧ bt s (n : Int) = c) := by
  by_cases h : n < s.size
  · have hl : n < (L s).length := by rw [← size_L]; exact h
    have e : L (s.extract n s.size) = (L s)[n] :: (L s).drop (n + 1) := by rw [L_ext, drop_cons _ _ hl]
    rw [atF_cons e, bt_L s n hl]
    simp [h]
  have e : L (s.extract n s.size) = [] := by rw [L_ext]; exact List.drop_eq_nil_of_le (by rw [← size_L]; omega)
  rw [atF_nil e]
  simp [h]
theorem tl_ext (s : ByteArray) (n : Nat) : tl (s.extract n s.size) = s.extract (n + 1) s.size := by
  apply L_inj
  rw [L_tl, L_ext, L_ext]; simp
theorem drp_is (p : Int → Bool) (s : ByteArray) : drpB p s = s.extract (spanB p s) s.size := rfl
theorem tl_is (s : ByteArray) : tl s = s.extract 1 s.size := rfl
theorem bt_tl (s : ByteArray) (j : Nat) (h : j + 1 < s.size) : bt (tl s) (j : Int) = bt s ((j + 1 : Nat) : Int) := by
  have h1 : j + 1 < (L s).length := by rw [← size_L]; exact h
  have h2 : j < (L (tl s)).length := by rw [L_tl, List.length_tail]; omega
  rw [bt_L _ _ h2, bt_L _ _ h1]
  have : (L (tl s))[j] = (L s)[j + 1] := by simp [L_tl]
  rw [this]
theorem digits_l (s : ByteArray) (hs : s.size ≤ 100000) : ∀ (m x k : Nat), x + m = s.size → m < k → (∀ j : Nat, j < x → dgP (bt s j) = true) → glacisref05_digits.l0 k s (x : Int) = some (spanB dgP s : Int)
  | 0, x, k, hm, hk, hj => by
    obtain ⟨k, rfl⟩ : ∃ k', k = k' + 1 := ⟨k - 1, by omega⟩
    rw [glacisref05_digits.l0, if_neg (by omega), span_eq dgP s x (by omega) hj (fun h => by omega)]
  | m + 1, x, k, hm, hk, hj => by
    obtain ⟨k, rfl⟩ : ∃ k', k = k' + 1 := ⟨k - 1, by omega⟩
    obtain ⟨c, hc⟩ := bt_u s x (by omega)
    rw [glacisref05_digits.l0, if_pos (by omega), if_pos (by omega), hc, digit_u]
    simp only [Option.bind_some]
    by_cases hd : dgP c.toNat = true
    · rw [if_pos hd, wrap_next x (by omega)]
      refine digits_l s hs m (x + 1) k (by omega) (by omega) (fun j hjx => ?_)
      by_cases e : j = x
      · subst e; rw [hc]; exact hd
      exact hj j (by omega)
    rw [if_neg hd, span_eq dgP s x (by omega) hj (fun _ => by rw [hc]; exact Bool.eq_false_iff.mpr hd)]
theorem digits_f (s : ByteArray) (hs : s.size ≤ 100000) (k : Nat) (hk : s.size < k) : glacisref05_digits.f k s = some (spanB dgP s : Int) := by
  unfold glacisref05_digits.f
  exact digits_l s hs s.size 0 k (by omega) hk (fun j hj => by omega)
theorem numL_snoc (l : List UInt8) (c : UInt8) : numL (l ++ [c]) = numL l * 10 + (c.toNat - 48) := by unfold numL; rw [List.foldl_append]; rfl
theorem wrap_id (x : Int) (h : -9000000000000000000 ≤ x ∧ x ≤ 9000000000000000000) : wrap64 x = x := by unfold wrap64; omega
theorem lt_p15 {x n : Nat} (h : x < 10 ^ n) (hn : n ≤ 15) : x < 1000000000000000 := Nat.lt_of_lt_of_le h (Nat.le_trans (Nat.pow_le_pow_right (by decide) hn) (by decide))
theorem told_l (s : ByteArray) (hs : s.size ≤ 15) (hd : ∀ c ∈ L s, dgU c = true) : ∀ (m x k : Nat), x + m = s.size → m < k → glacisref05_told.l0 k s (numL ((L s).take x) : Int) (x : Int) = some (numL (L s) : Int)
  | 0, x, k, hm, hk => by
    obtain ⟨k, rfl⟩ : ∃ k', k = k' + 1 := ⟨k - 1, by omega⟩
    rw [glacisref05_told.l0, if_neg (by omega), List.take_of_length_le (by rw [← size_L]; omega)]
  | m + 1, x, k, hm, hk => by
    obtain ⟨k, rfl⟩ : ∃ k', k = k' + 1 := ⟨k - 1, by omega⟩
    have hx : x < (L s).length := by rw [← size_L]; omega
    have hc := hd _ (List.getElem_mem hx)
    have hc2 := dg_ne hc
    have e : numL ((L s).take (x + 1)) = numL ((L s).take x) * 10 + ((L s)[x].toNat - 48) := by rw [take_snoc _ _ hx, numL_snoc]
    have hb : numL ((L s).take (x + 1)) < 1000000000000000 := lt_p15 (numL_bound ((L s).take (x + 1)) (fun c hc => hd c (List.mem_of_mem_take hc))) (by rw [List.length_take, ← size_L]; omega)
    rw [glacisref05_told.l0, if_pos (by omega), if_pos (by omega), bt_L s x hx, wrap_next x (by omega)]
    obtain ⟨d, hd48⟩ : ∃ d : Nat, (L s)[x].toNat = 48 + d := ⟨(L s)[x].toNat - 48, by omega⟩
    have hd9 : d ≤ 9 := by omega
    rw [hd48, Nat.add_sub_cancel_left] at e
    rw [e] at hb
    have m1 : ((((L s)[x].toNat : Int) - 48) % 256) = (d : Int) := by rw [hd48]; omega
    generalize numL ((L s).take x) = a at *
    have m2 : wrap64 (10 * (a : Int)) = 10 * (a : Int) := wrap_id _ (by omega)
    have m3 : wrap64 (10 * (a : Int) + (d : Int)) = 10 * (a : Int) + (d : Int) := wrap_id _ (by omega)
    have e2 : wrap64 ((wrap64 (10 * (a : Int))) + ((((L s)[x].toNat : Int) - 48) % 256)) = (numL ((L s).take (x + 1)) : Int) := by
      rw [m1, m2, m3, e]; omega
    rw [e2]
    exact told_l s hs hd m (x + 1) k (by omega) (by omega)
theorem told_f (s : ByteArray) (hs : s.size ≤ 15) (hd : ∀ c ∈ L s, dgU c = true) (k : Nat) (hk : 16 ≤ k) : glacisref05_told.f k s = some (numL (L s) : Int) := by
  unfold glacisref05_told.f
  have := told_l s hs hd s.size 0 k (by omega) (by omega)
  simpa [numL] using this
def refV (o : Option ((Int × Int × ByteArray) × ByteArray)) : ByteArray × Int × Int × ByteArray × ByteArray × Bool := match o with | some (v, t) => (⟨#[]⟩, v.1, v.2.1, v.2.2, t, true) | none => (⟨#[]⟩, 0, 0, ⟨#[]⟩, ⟨#[]⟩, false)
theorem refV_some (v : Int × Int × ByteArray) (t : ByteArray) : refV (some (v, t)) = (⟨#[]⟩, v.1, v.2.1, v.2.2, t, true) := rfl
def rdN (sg : Int) (s1 : ByteArray) : Option ((Int × Int × ByteArray) × ByteArray) :=
  if (takB dgP s1).size = 0 then none
    else if atF (drpB dgP s1) 46 = true then
      (if (takB dgP s1).size > 12 ∨ (takB dgP (tl (drpB dgP s1))).size = 0 ∨ (takB dgP (tl (drpB dgP s1))).size > 3 then none
      else some ((2, sg * (numV (takB dgP s1 ++ (takB dgP (tl (drpB dgP s1)) ++ zer (takB dgP (tl (drpB dgP s1))).size)) : Int), ⟨#[]⟩), drpB dgP (tl (drpB dgP s1))))
    else if (takB dgP s1).size > 15 then none else some ((1, sg * (numV (takB dgP s1) : Int), ⟨#[]⟩), drpB dgP s1)
theorem rdN_eq (s : ByteArray) : rdNumber s = rdN (sgn s) (atR s 45) := rdNumber_eq s
theorem number_j0 (s : ByteArray) (hs : s.size ≤ 100000) (sg : Int) (hsg : sg = 1 ∨ sg = -1) (k : Nat) (hk : s.size + 30 < k) : glacisref05_number.j0 k s sg = some (refV (rdN sg s)) := by
  obtain ⟨k, rfl⟩ : ∃ k', k = k' + 10 := ⟨k - 10, by omega⟩
  have hn := span_le dgP s
  have hall : ∀ c ∈ L (takB dgP s), dgU c = true := tak_all dgP s
  rw [glacisref05_number.j0, digits_f s hs _ (by omega)]
  simp only [Option.bind_some]
  unfold rdN
  rw [drp_is dgP s, tl_ext, atF_ext]
  have et : takB dgP s = s.extract 0 (spanB dgP s) := rfl
  rw [tak_size]
  by_cases h0 : spanB dgP s = 0
  · rw [if_pos (by omega), if_pos h0, glacisref05_number.j1, if_pos rfl]; rfl
  rw [if_neg (by omega), if_neg h0, glacisref05_number.j1]
  by_cases h15 : (spanB dgP s : Int) > 15
  · rw [decide_eq_true h15, if_pos rfl]
    by_cases h46 : spanB dgP s < s.size ∧ bt s (spanB dgP s) = 46
    · rw [decide_eq_true h46, if_pos rfl, if_pos (by omega)]; rfl
    rw [decide_eq_false h46, if_neg (by decide), if_pos (by omega)]; rfl
  rw [decide_eq_false h15, if_neg (by decide)]
  have hint : glacisref05_number.j2 (k + 8) s sg (spanB dgP s) true = some (refV (some ((1, sg * (numV (takB dgP s) : Int), ⟨#[]⟩), s.extract (spanB dgP s) s.size))) := by
    have hz : (takB dgP s).size ≤ 15 := by rw [tak_size]; omega
    have hb := lt_p15 (numL_bound (L (takB dgP s)) hall) (by rw [← size_L]; exact hz)
    rw [glacisref05_number.j2, if_pos rfl, if_pos (by omega), if_pos (by omega)]
    have e1 : s.extract 0 ((spanB dgP s : Int)).toNat = takB dgP s := rfl
    rw [e1, told_f _ hz hall _ (by omega)]
    simp only [Option.bind_some]
    rw [wrap_id _ (by rcases hsg with rfl | rfl <;> omega), numV_L, refV_some]
    rfl
  by_cases h46 : spanB dgP s < s.size ∧ bt s (spanB dgP s) = 46
  · rw [decide_eq_true h46, if_pos (show true = true from rfl)]
    rw [if_neg (by omega), if_pos (by omega), if_pos (by omega), h46.2]
    have hw : wrap64 ((spanB dgP s : Int) + 1) = ((spanB dgP s + 1 : Nat) : Int) := wrap_next _ (by omega)
    rw [show ((46 : Int) != 46) = false from rfl, glacisref05_number.j2, if_neg (by decide), hw, if_pos (by omega), if_pos (by omega)]
    have e2 : s.extract (((spanB dgP s + 1 : Nat) : Int)).toNat s.size = s.extract (spanB dgP s + 1) s.size := rfl
    rw [e2]
    have hz2 : (s.extract (spanB dgP s + 1) s.size).size ≤ s.size := by rw [ByteArray.size_extract]; omega
    rw [digits_f _ (by omega) _ (by omega)]
    simp only [Option.bind_some]
    generalize hP : s.extract (spanB dgP s + 1) s.size = P at *
    have hPL : L P = (L s).drop (spanB dgP s + 1) := by rw [← hP, L_ext]
    have hPs : P.size = s.size - (spanB dgP s + 1) := by rw [← hP, ByteArray.size_extract]; omega
    have hm := span_le dgP P
    have hall2 : ∀ c ∈ L (takB dgP P), dgU c = true := tak_all dgP P
    rw [tak_size]
    by_cases hbad : spanB dgP s > 12 ∨ spanB dgP P = 0 ∨ spanB dgP P > 3
    · rw [if_pos hbad]
      have hj : ∀ b : Bool, b = true → glacisref05_number.j3 (k + 7) s sg (spanB dgP s) (spanB dgP P) b = some (refV none) := by
        intro b hb
        rw [glacisref05_number.j3, if_pos hb]; rfl
      by_cases b1 : (spanB dgP s : Int) > 12
      · rw [if_pos b1]; exact hj true rfl
      rw [if_neg b1]
      by_cases b2 : (spanB dgP P : Int) < 1
      · rw [if_pos b2]; exact hj true rfl
      rw [if_neg b2]
      exact hj _ (decide_eq_true (by omega))
    rw [if_neg hbad, if_neg (by omega), if_neg (by omega), decide_eq_false (by omega), glacisref05_number.j3, if_neg (by decide), if_pos (by omega), if_pos (by omega), hw, if_pos (by omega)]
    have hw2 : wrap64 (((spanB dgP s + 1 : Nat) : Int) + (spanB dgP P : Int)) = ((spanB dgP s + 1 + spanB dgP P : Nat) : Int) := by unfold wrap64; omega
    rw [hw2, if_pos (by omega), if_pos (by omega)]
    have e3 : s.extract 0 ((spanB dgP s : Int)).toNat = takB dgP s := rfl
    have e4 : s.extract (((spanB dgP s + 1 : Nat) : Int)).toNat (((spanB dgP s + 1 + spanB dgP P : Nat) : Int)).toNat = takB dgP P := by
      apply L_inj
      rw [L_extm]
      have : L (takB dgP P) = (L P).take (spanB dgP P) := L_ext0 P _
      rw [this, hPL]
      congr 1
      omega
    rw [e3, e4]
    have z1 := tak_size dgP s
    have z2 := tak_size dgP P
    rw [if_pos (by omega)]
    have hz : (takB dgP s ++ takB dgP P).size ≤ 15 := by rw [ByteArray.size_append]; omega
    have hall3 : ∀ c ∈ L (takB dgP s ++ takB dgP P), dgU c = true := by
      rw [L_app]; intro c hc
      rcases List.mem_append.1 hc with hc | hc
      · exact hall c hc
      exact hall2 c hc
    rw [told_f _ hz hall3 _ (by omega)]
    simp only [Option.bind_some]
    have hb := numL_bound (L (takB dgP s ++ takB dgP P)) hall3
    have hlen : (L (takB dgP s ++ takB dgP P)).length = spanB dgP s + spanB dgP P := by rw [← size_L, ByteArray.size_append]; omega
    have hval : numV (takB dgP s ++ (takB dgP P ++ zer (spanB dgP P))) = numL (L (takB dgP s ++ takB dgP P)) * 10 ^ (3 - spanB dgP P) := by
      have eqa : takB dgP s ++ (takB dgP P ++ zer (spanB dgP P)) = (takB dgP s ++ takB dgP P) ++ zer (spanB dgP P) := L_inj (by simp only [L_app, List.append_assoc])
      rw [eqa, numV_L, L_app, zer_L, numL_app]
      have hzl : (zerL (spanB dgP P)).length = 3 - spanB dgP P := zer_len _ (by omega)
      have hz0 : numL (zerL (spanB dgP P)) = 0 := by
        rcases (show spanB dgP P = 1 ∨ spanB dgP P = 2 ∨ spanB dgP P = 3 by omega) with e | e | e <;> rw [e] <;> rfl
      rw [hzl, hz0, Nat.add_zero]
    rw [hval, refV_some]
    have hrest : drpB dgP P = s.extract (spanB dgP s + 1 + spanB dgP P) s.size := by
      apply L_inj
      have : L (drpB dgP P) = (L P).drop (spanB dgP P) := L_ext P _
      rw [this, hPL, L_ext, List.drop_drop]
    rw [hrest]
    generalize numL (L (takB dgP s ++ takB dgP P)) = X at *
    have hX : X < 10 ^ (spanB dgP s + spanB dgP P) := by rw [← hlen]; exact hb
    have hlast : ∀ (k' : Nat) (Y : Int), glacisref05_number.l0 (k' + 1) s sg (spanB dgP s) (spanB dgP P) Y 3 = some (⟨#[]⟩, 2, wrap64 (sg * Y), ⟨#[]⟩, s.extract (spanB dgP s + 1 + spanB dgP P) s.size, true) := by
      intro k' Y
      rw [glacisref05_number.l0, if_neg (by decide), hw, hw2, if_pos (by omega), if_pos (by omega)]
      rfl
    have hle : X < 10 ^ 12 * 10 ^ spanB dgP P := by
      rw [← Nat.pow_add]
      exact Nat.lt_of_lt_of_le hX (Nat.pow_le_pow_right (by omega) (by omega))
    rcases (show spanB dgP P = 1 ∨ spanB dgP P = 2 ∨ spanB dgP P = 3 by omega) with e | e | e
    · rw [e] at hlast hle ⊢
      rw [show k + 6 = (k + 5) + 1 from rfl, show (((1 : Nat)) : Int) = 1 from rfl] at *
      rw [glacisref05_number.l0, if_pos (by decide), wrap_id (10 * (X : Int)) (by omega), show wrap64 ((1 : Int) + 1) = 2 from wrap_id _ (by omega), glacisref05_number.l0, if_pos (by decide), wrap_id (10 * (10 * (X : Int))) (by omega), show wrap64 ((2 : Int) + 1) = 3 from wrap_id _ (by omega), hlast]
      rw [wrap_id _ (by rcases hsg with rfl | rfl <;> omega)]
      congr 3
      rw [show (3 - 1 : Nat) = 2 from rfl]
      push_cast
      rcases hsg with rfl | rfl <;> simp <;> omega
    · rw [e] at hlast hle ⊢
      rw [show k + 6 = (k + 5) + 1 from rfl, show (((2 : Nat)) : Int) = 2 from rfl] at *
      rw [glacisref05_number.l0, if_pos (by decide), wrap_id (10 * (X : Int)) (by omega), show wrap64 ((2 : Int) + 1) = 3 from wrap_id _ (by omega), hlast]
      rw [wrap_id _ (by rcases hsg with rfl | rfl <;> omega)]
      congr 3
      rw [show (3 - 2 : Nat) = 1 from rfl]
      push_cast
      rcases hsg with rfl | rfl <;> simp <;> omega
    rw [e] at hlast hle ⊢
    rw [show k + 6 = (k + 5) + 1 from rfl, show (((3 : Nat)) : Int) = 3 from rfl] at *
    rw [hlast]
    rw [wrap_id _ (by rcases hsg with rfl | rfl <;> omega)]
    congr 3
    rw [show (3 - 3 : Nat) = 0 from rfl]
    simp
  rw [decide_eq_false h46, if_neg (show ¬ (false = true) by decide), if_neg (show ¬ (spanB dgP s > 15) by omega)]
  by_cases he : (spanB dgP s : Int) = (s.size : Int)
  · rw [if_pos he]; exact hint
  rw [if_neg he, if_pos (by omega), if_pos (by omega)]
  have : (bt s (spanB dgP s) != 46) = true := by
    rw [bne_iff_ne]; intro e; exact h46 ⟨by omega, e⟩
  rw [this]; exact hint
theorem number_f (s : ByteArray) (hs : s.size ≤ 100000) (h0 : 0 < s.size) (k : Nat) (hk : s.size + 30 < k) : glacisref05_number.f k s = some (refV (rdNumber s)) := by
  unfold glacisref05_number.f
  rw [if_pos (by omega), rdN_eq]
  unfold sgn atR atF
  by_cases h : bt s 0 = 45
  · rw [if_pos h, if_pos (by omega), decide_eq_true (show 0 < s.size ∧ bt s 0 = 45 from ⟨h0, h⟩), if_pos rfl, if_pos rfl]
    have hz := tl_size s
    exact number_j0 (tl s) (by omega) (-1) (Or.inr rfl) k (by omega)
  rw [if_neg h, decide_eq_false (show ¬ (0 < s.size ∧ bt s 0 = 45) from fun e => h e.2), if_neg (by decide), if_neg (by decide)]
  exact number_j0 s hs 1 (Or.inl rfl) k hk
end Go.Proofs.YtjdbiicjfpgjkaaGreatDoor.Pl
/- Chapter 5: the document's own reader: texts in quotes, values, keys, parameters, items. -/
namespace Go.Proofs.YtjdbiicjfpgjkaaGreatDoor.Pl
open Go.RowKit Go.Proofs.YtjdbiicjfpgjkaaGreatDoor.Q Go.Proofs.YtjdbiicjfpgjkaaGreatDoor.Sf Go.Proofs.YtjdbiicjfpgjkaaGreatDoorW.PrintWords Go.Proofs.YtjdbiicjfpgjkaaGreatDoorW.PrintLast
set_option linter.unusedVariables false
set_option linter.unusedSimpArgs false
theorem nums_snoc (xs : List Int) (s : ByteArray) (i : Nat) (h : i < s.size) : strOfNums (xs ++ [bt s i]) = strOfNums xs ++ s.extract i (i + 1) := by
  have hl : i < (L s).length := by rw [← size_L]; exact h
  apply L_inj
  rw [bt_L s i hl, num_app xs _ _ rfl, L_app, L_extm, drop_cons _ _ hl]
  rw [show i + 1 - i = 1 by omega]; rfl
theorem ext_size (s : ByteArray) (i : Nat) (h : i < s.size) : (s.extract i (i + 1)).size = 1 := by rw [ByteArray.size_extract]; omega
theorem fits (a b : Nat) (ha : a ≤ 100000) (hb : b = 1) : a + b ≤ 9223372036854775807 := by omega
theorem qF_shut (d : Nat) (s : ByteArray) (xs : List Int) (h0 : 0 < s.size) (h : bt s 0 = 34) : qF (d + 1) s xs = some (strOfNums xs, tl s) := by
  rw [qF, if_pos h0, if_pos h]
theorem qF_nil (d : Nat) (s : ByteArray) (xs : List Int) (h0 : ¬ 0 < s.size) : qF (d + 1) s xs = none := by
  rw [qF, if_neg h0]
theorem qF_bad (d : Nat) (s : ByteArray) (xs : List Int) (h0 : 0 < s.size) (h : bt s 0 ≠ 34) (hb : bt s 0 < 32 ∨ 126 < bt s 0) : qF (d + 1) s xs = none := by
  rw [qF, if_pos h0, if_neg h, if_pos (by rcases hb with h | h; exact Or.inl h; exact Or.inr (Or.inl h))]
theorem wi_of {c : UInt8} (h : (c.toNat : Int) = 34 ∨ (c.toNat : Int) = 92) : wiP c.toNat ⟨#[34, 92]⟩ = true := by
  rw [wiQ]; exact decide_eq_true (by omega)
theorem wi_not {c : UInt8} (h : ¬ ((c.toNat : Int) = 34 ∨ (c.toNat : Int) = 92)) : ¬ wiP c.toNat ⟨#[34, 92]⟩ = true := by
  rw [wiQ]; intro e; have := of_decide_eq_true e; omega
theorem qF_esc (d : Nat) (s : ByteArray) (xs : List Int) (h0 : 0 < s.size) (h : bt s 0 = 92) (h1 : 0 < (tl s).size) (hq : bt (tl s) 0 = 34 ∨ bt (tl s) 0 = 92) : qF (d + 1) s xs = qF d (tl (tl s)) (xs ++ [bt (tl s) 0]) := by
  obtain ⟨c, hc⟩ := bt_u (tl s) 0 h1
  have hc' : bt (tl s) 0 = (c.toNat : Int) := hc
  rw [hc'] at hq
  have hw := wi_of hq
  rw [← hc'] at hw
  rw [qF, if_pos h0, if_neg (by rw [h]; decide), if_neg (by
    rintro (k | k | ⟨_, k⟩)
    · rw [h] at k; exact absurd k (by decide)
    · rw [h] at k; exact absurd k (by decide)
    exact k ⟨h1, hw⟩), if_pos h]
theorem qF_escbad (d : Nat) (s : ByteArray) (xs : List Int) (h0 : 0 < s.size) (h : bt s 0 = 92) (hq : ¬ (0 < (tl s).size ∧ (bt (tl s) 0 = 34 ∨ bt (tl s) 0 = 92))) : qF (d + 1) s xs = none := by
  rw [qF, if_pos h0, if_neg (by rw [h]; decide), if_pos (by
    refine Or.inr (Or.inr ⟨h, fun k => ?_⟩)
    obtain ⟨c, hc⟩ := bt_u (tl s) 0 k.1
    have hc' : bt (tl s) 0 = (c.toNat : Int) := hc
    have k2 := k.2
    rw [hc'] at hq k2
    exact wi_not (fun e => hq ⟨k.1, e⟩) k2)]
theorem qF_plain (d : Nat) (s : ByteArray) (xs : List Int) (h0 : 0 < s.size) (h : bt s 0 ≠ 34) (h1 : ¬ bt s 0 < 32) (h2 : ¬ 126 < bt s 0) (h3 : bt s 0 ≠ 92) : qF (d + 1) s xs = qF d (tl s) (xs ++ [bt s 0]) := by
  rw [qF, if_pos h0, if_neg h, if_neg (by
    rintro (k | k | ⟨k, _⟩)
    · exact h1 k
    · exact h2 k
    exact h3 k), if_neg h3]
theorem r_shut (k i : Nat) (s o : ByteArray) (hs : s.size ≤ 100000) (hi : i < s.size) (h : bt s i = 34) : glacisref05_quoted.l0 (k + 1) s o (i : Int) = some (⟨#[]⟩, 3, 0, o, s.extract (i + 1) s.size, true) := by
  rw [glacisref05_quoted.l0, if_pos (by omega), if_pos (by omega), if_pos h, wrap_next i (by omega), if_pos (by omega), if_pos (by omega)]; rfl
theorem r_nil (k i : Nat) (s o : ByteArray) (hi : ¬ i < s.size) : glacisref05_quoted.l0 (k + 1) s o (i : Int) = some (refV none) := by
  rw [glacisref05_quoted.l0, if_neg (by omega)]; rfl
theorem r_j (k i : Nat) (s o : ByteArray) (hi : i < s.size) (h : bt s i ≠ 34) : glacisref05_quoted.l0 (k + 1) s o (i : Int) = glacisref05_quoted.j1 k s o i (decide (bt s i < 32 ∨ 126 < bt s i)) := by
  rw [glacisref05_quoted.l0, if_pos (by omega), if_pos (by omega), if_neg h]
  by_cases h1 : bt s i < 32
  · rw [if_pos h1, decide_eq_true (Or.inl h1)]
  rw [if_neg h1]
  by_cases h2 : bt s i > 126
  · rw [decide_eq_true h2, decide_eq_true (Or.inr h2)]
  rw [decide_eq_false h2, decide_eq_false (by rintro (k | k); exact h1 k; exact h2 k)]
theorem r_bad (k i : Nat) (s o : ByteArray) (hi : i < s.size) (h : bt s i ≠ 34) (hb : bt s i < 32 ∨ 126 < bt s i) : glacisref05_quoted.l0 (k + 2) s o (i : Int) = some (refV none) := by
  rw [r_j (k + 1) i s o hi h, decide_eq_true hb, glacisref05_quoted.j1, if_pos rfl]; rfl
theorem r_plain (k i : Nat) (s o : ByteArray) (hs : s.size ≤ 100000) (hi : i < s.size) (ho : o.size ≤ 100000) (h : bt s i ≠ 34) (hb : ¬ (bt s i < 32 ∨ 126 < bt s i)) (h9 : bt s i ≠ 92) : glacisref05_quoted.l0 (k + 2) s o (i : Int) = glacisref05_quoted.l0 k s (o ++ s.extract i (i + 1)) ((i + 1 : Nat) : Int) := by
  have p1 : ((i : Int)) ≤ (((i + 1 : Nat) : Int)) := by omega
  have p2 : (((i + 1 : Nat) : Int)) ≤ (s.size : Int) := by omega
  have p3 : (0 : Int) ≤ (i : Int) := by omega
  have p4 : (i : Int) < (s.size : Int) := by omega
  have hw := wrap_next i (by omega)
  rw [r_j (k + 1) i s o hi h, decide_eq_false hb, glacisref05_quoted.j1, if_neg (by decide), if_pos p3, if_pos p4, if_neg h9, hw, if_pos p1, if_pos p2]
  simp only [Int.toNat_natCast]
  rw [if_pos (fits _ _ ho (ext_size s i hi))]
theorem r_esc (k i : Nat) (s o : ByteArray) (hs : s.size ≤ 100000) (hi : i + 1 < s.size) (ho : o.size ≤ 100000) (h9 : bt s i = 92) (hq : bt s ((i + 1 : Nat) : Int) = 34 ∨ bt s ((i + 1 : Nat) : Int) = 92) : glacisref05_quoted.l0 (k + 2) s o (i : Int) = glacisref05_quoted.l0 k s (o ++ s.extract (i + 1) (i + 1 + 1)) ((i + 1 + 1 : Nat) : Int) := by
  have p1 : (((i + 1 : Nat) : Int)) ≤ (((i + 1 + 1 : Nat) : Int)) := by omega
  have p2 : (((i + 1 + 1 : Nat) : Int)) ≤ (s.size : Int) := by omega
  have p3 : (0 : Int) ≤ (i : Int) := by omega
  have p4 : (i : Int) < (s.size : Int) := by omega
  have p5 : ¬ (((i + 1 : Nat) : Int)) = (s.size : Int) := by omega
  have p6 : (0 : Int) ≤ (((i + 1 : Nat) : Int)) := by omega
  have p7 : (((i + 1 : Nat) : Int)) < (s.size : Int) := by omega
  have hw := wrap_next i (by omega)
  have hw2 := wrap_next (i + 1) (by omega)
  rw [r_j (k + 1) i s o (by omega) (by rw [h9]; decide), decide_eq_false (by rw [h9]; decide), glacisref05_quoted.j1, if_neg (by decide), if_pos p3, if_pos p4, if_pos h9, hw, if_neg p5, if_pos p6, if_pos p7, hw2]
  rcases hq with hq | hq
  · rw [if_pos hq, if_pos p1, if_pos p2]
    simp only [Int.toNat_natCast]
    rw [if_pos (fits _ _ ho (ext_size s (i + 1) hi))]
  rw [if_neg (by rw [hq]; decide), if_pos hq, if_pos p1, if_pos p2]
  simp only [Int.toNat_natCast]
  rw [if_pos (fits _ _ ho (ext_size s (i + 1) hi))]
theorem r_escbad (k i : Nat) (s o : ByteArray) (hs : s.size ≤ 100000) (hi : i < s.size) (h9 : bt s i = 92) (hq : ¬ (i + 1 < s.size ∧ (bt s ((i + 1 : Nat) : Int) = 34 ∨ bt s ((i + 1 : Nat) : Int) = 92))) : glacisref05_quoted.l0 (k + 2) s o (i : Int) = some (refV none) := by
  have p3 : (0 : Int) ≤ (i : Int) := by omega
  have p4 : (i : Int) < (s.size : Int) := by omega
  have hw := wrap_next i (by omega)
  rw [r_j (k + 1) i s o hi (by rw [h9]; decide), decide_eq_false (by rw [h9]; decide), glacisref05_quoted.j1, if_neg (by decide), if_pos p3, if_pos p4, if_pos h9, hw]
  by_cases he : i + 1 = s.size
  · rw [if_pos (show (((i + 1 : Nat) : Int)) = (s.size : Int) by omega)]; rfl
  have h1 : i + 1 < s.size := by omega
  have p6 : (0 : Int) ≤ (((i + 1 : Nat) : Int)) := by omega
  have p7 : (((i + 1 : Nat) : Int)) < (s.size : Int) := by omega
  rw [if_neg (show ¬ (((i + 1 : Nat) : Int)) = (s.size : Int) by omega), if_pos p6, if_pos p7, if_neg (fun e => hq ⟨h1, Or.inl e⟩), if_neg (fun e => hq ⟨h1, Or.inr e⟩)]; rfl
theorem bt_ext (s : ByteArray) (i : Nat) (h : i < s.size) : bt (s.extract i s.size) 0 = bt s i := by
  have hl : i < (L s).length := by rw [← size_L]; exact h
  have e : L (s.extract i s.size) = (L s)[i] :: (L s).drop (i + 1) := by rw [L_ext, drop_cons _ _ hl]
  rw [bt0 e, bt_L s i hl]
theorem quoted_l (s : ByteArray) (hs : s.size ≤ 100000) : ∀ (d i k : Nat) (xs : List Int), s.size < i + d → i ≤ s.size → 2 * s.size + 2 < k + 2 * i → (strOfNums xs).size ≤ i →
    glacisref05_quoted.l0 k s (strOfNums xs) (i : Int) = some (refV ((qF d (s.extract i s.size) xs).map mkQ))
  | 0, i, k, xs, hd, hi, hk, hx => by omega
  | d + 1, i, k, xs, hd, hi, hk, hx => by
    obtain ⟨k, rfl⟩ : ∃ k', k = k' + 2 := ⟨k - 2, by omega⟩
    have hz : (s.extract i s.size).size + i = s.size := by rw [ByteArray.size_extract]; omega
    have ho : (strOfNums xs).size ≤ 100000 := Nat.le_trans hx (Nat.le_trans hi hs)
    by_cases h : i < s.size
    · have hb := bt_ext s i h
      have h0 : 0 < (s.extract i s.size).size := by omega
      by_cases c34 : bt s i = 34
      · rw [r_shut (k + 1) i s _ hs h c34, qF_shut d _ xs h0 (hb.trans c34), tl_ext]; rfl
      by_cases cb : bt s i < 32 ∨ 126 < bt s i
      · rw [r_bad k i s _ h c34 cb, qF_bad d _ xs h0 (by rw [hb]; exact c34) (by rw [hb]; exact cb)]; rfl
      by_cases c92 : bt s i = 92
      · have hz1 : (s.extract (i + 1) s.size).size + (i + 1) = s.size := by rw [ByteArray.size_extract]; omega
        by_cases hq : i + 1 < s.size ∧ (bt s ((i + 1 : Nat) : Int) = 34 ∨ bt s ((i + 1 : Nat) : Int) = 92)
        · have hb1 := bt_ext s (i + 1) hq.1
          rw [r_esc k i s _ hs hq.1 ho c92 hq.2, qF_esc d _ xs h0 (hb.trans c92) (by rw [tl_ext]; omega) (by rw [tl_ext, hb1]; exact hq.2), tl_ext, tl_ext, hb1, ← nums_snoc xs s (i + 1) hq.1]
          refine quoted_l s hs d (i + 1 + 1) k _ (by omega) (by omega) (by omega) ?_
          rw [nums_snoc xs s (i + 1) hq.1, ByteArray.size_append, ext_size s (i + 1) hq.1]; omega
        rw [r_escbad k i s _ hs h c92 hq, qF_escbad d _ xs h0 (hb.trans c92) (by
          rw [tl_ext]
          rintro ⟨k1, k2⟩
          have h1 : i + 1 < s.size := by omega
          rw [bt_ext s (i + 1) h1] at k2
          exact hq ⟨h1, k2⟩)]
        rfl
      rw [r_plain k i s _ hs h ho c34 cb c92, qF_plain d _ xs h0 (by rw [hb]; exact c34) (by rw [hb]; exact fun e => cb (Or.inl e)) (by rw [hb]; exact fun e => cb (Or.inr e)) (by rw [hb]; exact c92), tl_ext, hb, ← nums_snoc xs s i h]
      refine quoted_l s hs d (i + 1) k _ (by omega) (by omega) (by omega) ?_
      rw [nums_snoc xs s i h, ByteArray.size_append, ext_size s i h]; omega
    rw [r_nil (k + 1) i s _ h, qF_nil d _ xs (by omega)]; rfl
theorem quoted_f (s : ByteArray) (hs : s.size ≤ 100000) (h0 : 0 < s.size) (k : Nat) (hk : 2 * s.size + 10 < k) : glacisref05_quoted.f k s = some (refV (rdQuoted (tl s))) := by
  unfold glacisref05_quoted.f rdQuoted
  have z := tl_lt s h0
  rw [z]
  have := quoted_l s hs s.size 1 k [] (by omega) (by omega) (by omega) (by show (0 : Nat) ≤ 1; omega)
  exact this
theorem tok_l (s : ByteArray) (hs : s.size ≤ 100000) : ∀ (m x k : Nat), x + m = s.size → m + 17 < k → (∀ j : Nat, j < x → tokP (bt s j) = true) → glacisref05_value.l0 k s (x : Int) = some (refV (some ((4, 0, takB tokP s), drpB tokP s)))
  | 0, x, k, hm, hk, hj => by
    obtain ⟨k, rfl⟩ : ∃ k', k = k' + 1 := ⟨k - 1, by omega⟩
    have e := span_eq tokP s x (by omega) hj (fun h => by omega)
    rw [glacisref05_value.l0, if_neg (by omega), if_pos (by omega), if_pos (by omega)]
    unfold takB drpB
    rw [e]; rfl
  | m + 1, x, k, hm, hk, hj => by
    obtain ⟨k, rfl⟩ : ∃ k', k = k' + 1 := ⟨k - 1, by omega⟩
    obtain ⟨c, hc⟩ := bt_u s x (by omega)
    rw [glacisref05_value.l0, if_pos (by omega), if_pos (by omega), hc, tokens_u c k (by omega)]
    simp only [Option.bind_some]
    by_cases hd : tokP c.toNat = true
    · rw [if_pos hd, wrap_next x (by omega)]
      refine tok_l s hs m (x + 1) k (by omega) (by omega) (fun j hjx => ?_)
      by_cases e : j = x
      · subst e; rw [hc]; exact hd
      exact hj j (by omega)
    have e := span_eq tokP s x (by omega) hj (fun _ => by rw [hc]; exact Bool.eq_false_iff.mpr hd)
    rw [if_neg hd, if_pos (by omega)]
    unfold takB drpB
    rw [e]; rfl
theorem base_l (s : ByteArray) (hs : s.size ≤ 100000) (h0 : 0 < s.size) : ∀ (m x k : Nat), x + 1 + m = s.size → m < k → (∀ j : Nat, j < x → baP (bt (tl s) j) = true) → glacisref05_value.l1 k s ((x + 1 : Nat) : Int) = some (refV (rdBytes (tl s)))
  | 0, x, k, hm, hk, hj => by
    obtain ⟨k, rfl⟩ : ∃ k', k = k' + 1 := ⟨k - 1, by omega⟩
    have hz := tl_lt s h0
    have e := span_eq baP (tl s) x (by omega) hj (fun h => by omega)
    rw [glacisref05_value.l1, if_neg (by omega), if_pos (by omega)]
    unfold rdBytes
    rw [drp_is, e, atF_ext, decide_eq_false (by omega), if_neg (by decide)]; rfl
  | m + 1, x, k, hm, hk, hj => by
    obtain ⟨k, rfl⟩ : ∃ k', k = k' + 1 := ⟨k - 1, by omega⟩
    have hz := tl_lt s h0
    have hb : bt (tl s) (x : Int) = bt s ((x + 1 : Nat) : Int) := bt_tl s x (by omega)
    obtain ⟨c, hc⟩ := bt_u s (x + 1) (by omega)
    rw [glacisref05_value.l1, if_pos (by omega), if_pos (by omega), hc, base_u c]
    simp only [Option.bind_some]
    by_cases hd : baP c.toNat = true
    · rw [if_pos hd, wrap_next _ (by omega)]
      refine base_l s hs h0 m (x + 1) k (by omega) (by omega) (fun j hjx => ?_)
      by_cases e : j = x
      · subst e; rw [hb, hc]; exact hd
      exact hj j (by omega)
    have e := span_eq baP (tl s) x (by omega) hj (fun _ => by rw [hb, hc]; exact Bool.eq_false_iff.mpr hd)
    rw [if_neg hd, if_neg (by omega)]
    unfold rdBytes
    rw [drp_is, e, atF_ext, hb, hc]
    by_cases h58 : (c.toNat : Int) = 58
    · rw [if_pos h58, decide_eq_true ⟨by omega, h58⟩, if_pos rfl, if_pos (by omega), if_pos (by omega), wrap_next _ (by omega), if_pos (by omega), if_pos (by omega), refV_some]
      have e1 : s.extract 1 (((x + 1 : Nat) : Int)).toNat = takB baP (tl s) := by
        apply L_inj
        unfold takB
        rw [e, L_ext0, L_tl, L_extm]
        rw [show (((x + 1 : Nat) : Int)).toNat - 1 = x by omega, List.drop_one]
      have e2 : s.extract (((x + 1 + 1 : Nat) : Int)).toNat s.size = tl ((tl s).extract x (tl s).size) := by
        rw [tl_ext]
        apply L_inj
        rw [L_ext, L_ext, L_tl, ← List.drop_one, List.drop_drop]
        congr 1
        omega
      rw [e1, e2]
    rw [if_neg h58, decide_eq_false (fun h => h58 h.2), if_neg (by decide)]; rfl
theorem firsts (c : UInt8) : ((c.toNat : Int) = 45 ∨ dgP c.toNat = true → (c.toNat : Int) ≠ 34) ∧ (leP c.toNat = true ∨ (c.toNat : Int) = 42 → tokP c.toNat = true ∧ (c.toNat : Int) ≠ 34) := by
  have h := allU (fun c : UInt8 => (!(decide ((c.toNat : Int) = 45) || dgP c.toNat) || !decide ((c.toNat : Int) = 34)) && (!(leP c.toNat || decide ((c.toNat : Int) = 42)) || (tokP c.toNat && !decide ((c.toNat : Int) = 34)))) (by decide +kernel) c
  simp only [Bool.and_eq_true, Bool.or_eq_true, Bool.not_eq_true', Bool.or_eq_false_iff, decide_eq_false_iff_not] at h
  refine ⟨fun k => ?_, fun k => ?_⟩
  · rcases h.1 with ⟨a, b⟩ | a
    · rcases k with k | k
      · exact absurd k a
      rw [k] at b; cases b
    exact a
  rcases h.2 with ⟨a, b⟩ | a
  · rcases k with k | k
    · rw [k] at a; cases a
    exact absurd k b
  exact a
theorem value_f (s : ByteArray) (hs : s.size ≤ 100000) (k : Nat) (hk : 2 * s.size + 100 < k) : glacisref05_value.f k s = some (refV (rdValue s)) := by
  unfold glacisref05_value.f rdValue
  by_cases h0 : 0 < s.size
  · obtain ⟨c, hc⟩ := bt_u s 0 h0
    have hne : ¬ s.toList = ([] : List UInt8) := by
      rw [L_toList]; intro e; rw [size_L, e] at h0; exact absurd h0 (by simp)
    have hc' : bt s 0 = (c.toNat : Int) := hc
    obtain ⟨f1, f2⟩ := firsts c
    rw [if_neg hne, if_pos (by omega), if_pos h0, hc', letter_u, digit_u]
    simp only [Option.bind_some]
    obtain ⟨k, rfl⟩ : ∃ k', k = k' + 3 := ⟨k - 3, by omega⟩
    have hj0 : ∀ b : Bool, b = true → (c.toNat : Int) = 45 ∨ dgP c.toNat = true → glacisref05_value.j0 (k + 3) s (leP c.toNat) b = some (refV (if (c.toNat : Int) = 45 ∨ dgP c.toNat = true then rdNumber s else if leP c.toNat = true ∨ (c.toNat : Int) = 42 then some ((4, 0, takB tokP s), drpB tokP s) else if (c.toNat : Int) = 34 then rdQuoted (tl s) else if (c.toNat : Int) = 58 then rdBytes (tl s) else if (c.toNat : Int) = 63 then rdBool (tl s) else none)) := by
      intro b hb hcn
      rw [glacisref05_value.j0, if_pos hb, number_f s hs h0 _ (by omega), if_pos hcn]
      simp only [Option.bind_some]
    by_cases c45 : (c.toNat : Int) = 45
    · rw [if_pos c45]; exact hj0 true rfl (Or.inl c45)
    rw [if_neg c45]
    by_cases cd : dgP c.toNat = true
    · exact hj0 _ cd (Or.inr cd)
    rw [if_neg (by rintro (h | h); exact c45 h; exact cd h), glacisref05_value.j0, if_neg cd, if_pos (by omega), hc']
    by_cases c34 : (c.toNat : Int) = 34
    · rw [if_pos c34, quoted_f s hs h0 _ (by omega), if_neg (fun h => (f2 h).2 c34), if_pos c34]
      simp only [Option.bind_some]
    rw [if_neg c34]
    have hj1 : ∀ b : Bool, b = true → leP c.toNat = true ∨ (c.toNat : Int) = 42 → glacisref05_value.j1 (k + 2) s b = some (refV (if leP c.toNat = true ∨ (c.toNat : Int) = 42 then some ((4, 0, takB tokP s), drpB tokP s) else if (c.toNat : Int) = 34 then rdQuoted (tl s) else if (c.toNat : Int) = 58 then rdBytes (tl s) else if (c.toNat : Int) = 63 then rdBool (tl s) else none)) := by
      intro b hb hcn
      rw [glacisref05_value.j1, if_pos hb, if_pos hcn]
      exact tok_l s hs (s.size - 1) 1 (k + 1) (by omega) (by omega) (fun j hj => by
        obtain rfl : j = 0 := by omega
        rw [hc]; exact (f2 hcn).1)
    by_cases cl : leP c.toNat = true
    · rw [if_pos cl]; exact hj1 true rfl (Or.inl cl)
    rw [if_neg cl]
    by_cases c42 : (c.toNat : Int) = 42
    · exact hj1 _ (beq_iff_eq.2 c42) (Or.inr c42)
    rw [if_neg (by rintro (h | h); exact cl h; exact c42 h), if_neg c34, glacisref05_value.j1, if_neg (by simpa using c42), if_pos (by omega), hc']
    by_cases c58 : (c.toNat : Int) = 58
    · rw [if_pos c58, if_pos c58]
      exact base_l s hs h0 (s.size - 1) 0 (k + 1) (by omega) (by omega) (fun j hj => by omega)
    rw [if_neg c58, if_neg c58]
    by_cases c63 : (c.toNat : Int) = 63
    · rw [if_pos c63, if_pos c63]
      unfold rdBool
      have hz := tl_lt s h0
      by_cases h2 : (s.size : Int) < 2
      · have e : L (tl s) = [] := by
          have : (L (tl s)).length = 0 := by rw [← size_L]; omega
          exact List.length_eq_zero_iff.1 this
        rw [if_pos h2, atF_nil e, atF_nil e, if_neg (by decide), if_neg (by decide)]; rfl
      rw [if_neg h2, if_pos (by omega)]
      have hb : bt (tl s) 0 = bt s 1 := bt_tl s 0 (by omega)
      have a1 : ∀ n : Int, atF (tl s) n = decide (bt s 1 = n) := fun n => by
        unfold atF; rw [hb]; simp [show 0 < (tl s).size by omega]
      have er : s.extract 2 s.size = tl (tl s) := by rw [tl_is s, tl_ext]
      rw [a1, a1]
      by_cases d48 : bt s 1 = 48
      · rw [if_pos d48, if_pos (by omega), d48, er]; rfl
      rw [if_neg d48]
      by_cases d49 : bt s 1 = 49
      · rw [if_pos d49, if_pos (by omega), d49, er]; rfl
      rw [if_neg d49, decide_eq_false d49, decide_eq_false d48, if_neg (by decide), if_neg (by decide)]; rfl
    rw [if_neg c63, if_neg c63]; rfl
  have he : s.toList = ([] : List UInt8) := by
    rw [L_toList]
    have : (L s).length = 0 := by rw [← size_L]; omega
    exact List.length_eq_zero_iff.1 this
  rw [if_pos he, if_neg h0]; rfl
def refK (o : Option (ByteArray × ByteArray)) : ByteArray × ByteArray × Int := match o with | some (k, t) => (k, t, 0) | none => (⟨#[]⟩, ⟨#[]⟩, 50)
theorem key_l (s : ByteArray) (hs : s.size ≤ 100000) (h0 : 0 < s.size) (hf : smP (bt s 0) = true ∨ bt s 0 = 42) : ∀ (m x k : Nat), x + 1 + m = s.size → m < k → (∀ j : Nat, j < x + 1 → keP (bt s j) = true) → glacisref05_Key.l0 k s ((x + 1 : Nat) : Int) = some (takB keP s, drpB keP s, 0)
  | 0, x, k, hm, hk, hj => by
    obtain ⟨k, rfl⟩ : ∃ k', k = k' + 1 := ⟨k - 1, by omega⟩
    have e := span_eq keP s (x + 1) (by omega) hj (fun h => by omega)
    rw [glacisref05_Key.l0, if_neg (by omega), if_neg (by omega), if_pos (by omega), if_pos (by omega)]
    unfold takB drpB
    rw [e]; rfl
  | m + 1, x, k, hm, hk, hj => by
    obtain ⟨k, rfl⟩ : ∃ k', k = k' + 1 := ⟨k - 1, by omega⟩
    obtain ⟨c, hc⟩ := bt_u s (x + 1) (by omega)
    have hb : ((((x + 1 : Nat) : Int)) == 0) = false := by rw [beq_eq_false_iff_ne]; omega
    rw [glacisref05_Key.l0, if_pos (by omega), if_pos (by omega), hc, hb, small_v c]
    simp only [Option.bind_some]
    by_cases hd : keP c.toNat = true
    · rw [if_pos hd, wrap_next _ (by omega)]
      refine key_l s hs h0 hf m (x + 1) k (by omega) (by omega) (fun j hjx => ?_)
      by_cases e : j = x + 1
      · subst e; rw [hc]; exact hd
      exact hj j (by omega)
    have e := span_eq keP s (x + 1) (by omega) hj (fun _ => by rw [hc]; exact Bool.eq_false_iff.mpr hd)
    rw [if_neg hd, if_neg (by omega), if_pos (by omega)]
    unfold takB drpB
    rw [e]; rfl
theorem key_f (s : ByteArray) (hs : s.size ≤ 100000) (k : Nat) (hk : s.size + 2 < k) : glacisref05_Key.f k s = some (refK (rdKey s)) := by
  unfold glacisref05_Key.f rdKey
  obtain ⟨k, rfl⟩ : ∃ k', k = k' + 1 := ⟨k - 1, by omega⟩
  rw [glacisref05_Key.l0]
  by_cases h0 : 0 < s.size
  · obtain ⟨c, hc⟩ := bt_u s 0 h0
    have hc' : bt s 0 = (c.toNat : Int) := hc
    rw [if_pos (by omega), if_pos (by omega), hc', show ((0 : Int) == 0) = true from rfl, small_u c]
    simp only [Option.bind_some]
    by_cases hf : smP c.toNat = true ∨ (c.toNat : Int) = 42
    · have e : (smP c.toNat || decide ((c.toNat : Int) = 42)) = true := by
        rcases hf with h | h
        · rw [h]; rfl
        rw [decide_eq_true h, Bool.or_true]
      rw [if_pos e, if_pos ⟨h0, hf⟩]
      rw [show wrap64 ((0 : Int) + 1) = ((0 + 1 : Nat) : Int) from wrap_id _ (by omega)]
      have := key_l s hs h0 (by rw [hc']; exact hf) (s.size - 1) 0 k (by omega) (by omega) (fun j hj => by
        obtain rfl : j = 0 := by omega
        rw [hc]; exact (key_first c hf).1)
      exact this
    have e : (smP c.toNat || decide ((c.toNat : Int) = 42)) = false := by
      rw [Bool.or_eq_false_iff]
      exact ⟨Bool.eq_false_iff.mpr (fun h => hf (Or.inl h)), decide_eq_false (fun h => hf (Or.inr h))⟩
    rw [e, if_neg (by decide), if_pos trivial, if_neg (fun h => hf h.2)]; rfl
  rw [if_neg (by omega), if_pos rfl, if_neg (fun h => h0 h.1)]; rfl
end Go.Proofs.YtjdbiicjfpgjkaaGreatDoor.Pl
/- Chapter 5: the document's own reader: parameters, items, fields. -/
namespace Go.Proofs.YtjdbiicjfpgjkaaGreatDoor.Pl
open Go.RowKit Go.Proofs.YtjdbiicjfpgjkaaGreatDoor.Q Go.Proofs.YtjdbiicjfpgjkaaGreatDoor.Sf Go.Proofs.YtjdbiicjfpgjkaaGreatDoorW.PrintWords Go.Proofs.YtjdbiicjfpgjkaaGreatDoorW.PrintLast
set_option linter.unusedVariables false
set_option linter.unusedSimpArgs false
theorem toList_inj {a b : ByteArray} : a.toList = b.toList ↔ a = b := ⟨fun h => L_inj (by rw [← L_toList, ← L_toList, h]), fun h => by rw [h]⟩
end Go.Proofs.YtjdbiicjfpgjkaaGreatDoor.Pl
/- Chapter 6: awake's calls, evaluated. -/
namespace Go.Proofs.YtjdbiicjfpgjkaaGreatDoor.Pl
open Go.RowKit Go.Proofs.YtjdbiicjfpgjkaaGreatDoor.Q Go.Proofs.YtjdbiicjfpgjkaaGreatDoor.Sf Go.Proofs.YtjdbiicjfpgjkaaGreatDoorW.PrintWords Go.Proofs.YtjdbiicjfpgjkaaGreatDoorW.PrintLast
set_option linter.unusedVariables false
set_option linter.unusedSimpArgs false
set_option maxRecDepth 100000
def la6 : List S34 := [⟨⟨#[]⟩, false, ⟨4, 0, ⟨#[97]⟩, []⟩, [], []⟩, ⟨⟨#[]⟩, true, ⟨0, 0, ⟨#[]⟩, []⟩, [⟨4, 0, ⟨#[98]⟩, []⟩, ⟨4, 0, ⟨#[99]⟩, []⟩], [⟨⟨#[100]⟩, 6, 1, ⟨#[]⟩⟩]⟩, ⟨⟨#[]⟩, false, ⟨3, 0, ⟨#[101]⟩, []⟩, [], []⟩]
def ld6 : List S34 := [⟨⟨#[97]⟩, true, ⟨0, 0, ⟨#[]⟩, []⟩, [⟨4, 0, ⟨#[120]⟩, []⟩], []⟩, ⟨⟨#[98]⟩, false, ⟨6, 1, ⟨#[]⟩, []⟩, [], []⟩]
theorem list_c : sfield_List.f 20 (⟨#[97, 44]⟩ : ByteArray) = some ([], 50) := by kernel_rfl
theorem list_a : sfield_List.f 20 (⟨#[97, 44, 32, 40, 98, 32, 99, 41, 59, 100, 32, 44, 32, 34, 101, 34]⟩ : ByteArray) = some (la6, 0) := by kernel_rfl
theorem dict_a : sfield_Dict.f 20 (⟨#[97, 61, 49, 44, 32, 98, 44, 32, 97, 61, 40, 120, 41]⟩ : ByteArray) = some (ld6, 0) := by kernel_rfl
theorem dictT_a : sfield_DictText.f 20 ld6 = some (⟨#[97, 61, 40, 120, 41, 44, 32, 98]⟩, 0) := by kernel_rfl
theorem awake6_20 : glacislaw06_awake.f 20 = some true := by
  unfold glacislaw06_awake.f
  rw [list_a, Option.bind_some, dict_a, Option.bind_some]
  show ((sfield_DictText.f 20 ld6).bind fun _ => _) = _
  rw [dictT_a, Option.bind_some, list_c, Option.bind_some]
  repeat rw [if_pos (by first | decide | rfl | (rw [Lib.toList_data]; rfl) | (rw [Lib.toList_data]))]
  rfl
theorem up6 {α : Type} {f : Nat → Option α} (hm : ∀ k, LeO (f k) (f (k + 1))) {k0 : Nat} {r : α} (h : f k0 = some r) : ∀ k, k0 ≤ k → f k = some r := by
  intro k hk
  induction k with
  | zero => obtain rfl : k0 = 0 := by omega
            exact h
  | succ k ih =>
    rcases Nat.lt_or_ge k k0 with c | c
    · obtain rfl : k0 = k + 1 := by omega
      exact h
    exact hm k r (ih c)
theorem awake6 (k : Nat) (hk : 20 ≤ k) : glacislaw06_awake.f k = some true := up6 glacislaw06_awake.mono awake6_20 k hk
end Go.Proofs.YtjdbiicjfpgjkaaGreatDoor.Pl
/- Chapter 6: a member, as both readers read it. -/
namespace Go.Proofs.YtjdbiicjfpgjkaaGreatDoor.Pl
open Go.RowKit Go.Proofs.YtjdbiicjfpgjkaaGreatDoor.Q Go.Proofs.YtjdbiicjfpgjkaaGreatDoor.Sf Go.Proofs.YtjdbiicjfpgjkaaGreatDoorW.PrintWords Go.Proofs.YtjdbiicjfpgjkaaGreatDoorW.PrintLast
set_option linter.unusedVariables false
set_option linter.unusedSimpArgs false
def mIn (its : List S31) (l : List S60) : S34 := ⟨⟨#[]⟩, true, ⟨0, 0, ⟨#[]⟩, []⟩, its, l⟩
def mIt (x : S31) : S34 := ⟨⟨#[]⟩, false, x, [], []⟩
end Go.Proofs.YtjdbiicjfpgjkaaGreatDoor.Pl
/- Chapter 6: members are the same as themselves. -/
namespace Go.Proofs.YtjdbiicjfpgjkaaGreatDoor.Pl
open Go.RowKit Go.Proofs.YtjdbiicjfpgjkaaGreatDoor.Q Go.Proofs.YtjdbiicjfpgjkaaGreatDoor.Sf Go.Proofs.YtjdbiicjfpgjkaaGreatDoorW.PrintWords Go.Proofs.YtjdbiicjfpgjkaaGreatDoorW.PrintLast
set_option linter.unusedVariables false
set_option linter.unusedSimpArgs false
theorem rd_item (l : List S31) (j : Nat) (h : j < l.length) : rd_T31 l (j : Int) = l[j] := by simp [rd_T31, List.getD_eq_getElem?_getD, h]
theorem rd_memb (l : List S34) (j : Nat) (h : j < l.length) : rd_T34 l (j : Int) = l[j] := by simp [rd_T34, List.getD_eq_getElem?_getD, h]
end Go.Proofs.YtjdbiicjfpgjkaaGreatDoor.Pl
/- Chapter 6: what text tells what members; such a text is read as them, and what is read is such a text. -/
namespace Go.Proofs.YtjdbiicjfpgjkaaGreatDoor.Pl
open Go.RowKit Go.Proofs.YtjdbiicjfpgjkaaGreatDoor.Q Go.Proofs.YtjdbiicjfpgjkaaGreatDoor.Sf Go.Proofs.YtjdbiicjfpgjkaaGreatDoorW.PrintWords Go.Proofs.YtjdbiicjfpgjkaaGreatDoorW.PrintLast
set_option linter.unusedVariables false
set_option linter.unusedSimpArgs false
def ITm (u : List UInt8) (x : S31) : Prop := IT u x.f0 x.f1 (L x.f2) x.f3
inductive NT : List UInt8 → List S31 → List S31 → List S60 → Prop
  | shut (b p : List UInt8) (its : List S31) (l : List S60) (hb : ∀ c ∈ b, c = 32) (hp : PT p [] l) : NT (b ++ 41 :: p) its its l
  | item (b u v : List UInt8) (x : S31) (its its' : List S31) (l : List S60) (hb : ∀ c ∈ b, c = 32) (h1 : its ≠ [] → b ≠ []) (hu : ITm u x) (h : NT v (its ++ [x]) its' l) : NT (b ++ (u ++ v)) its its' l
inductive MT : List UInt8 → S34 → Prop
  | inn (u : List UInt8) (its : List S31) (l : List S60) (h : NT u [] its l) : MT (40 :: u) (mIn its l)
  | itm (u : List UInt8) (x : S31) (h : ITm u x) : MT u (mIt x)
variable {rd : ByteArray → Option (S34 × ByteArray)} {R : List UInt8 → S34 → Prop}
end Go.Proofs.YtjdbiicjfpgjkaaGreatDoor.Pl
/- Chapter 5: any value, any parameters and any item of few short texts have an answer; what they tell is read as itself. -/
namespace Go.Proofs.YtjdbiicjfpgjkaaGreatDoor.Pl
open Go.RowKit Go.Proofs.YtjdbiicjfpgjkaaGreatDoor.Q Go.Proofs.YtjdbiicjfpgjkaaGreatDoor.Sf Go.Proofs.YtjdbiicjfpgjkaaGreatDoorW.PrintWords Go.Proofs.YtjdbiicjfpgjkaaGreatDoorW.PrintLast
set_option linter.unusedVariables false
set_option linter.unusedSimpArgs false
theorem whole_any (s : ByteArray) (m : Int) (hz : s.size ≤ 2199023255552) : ∃ b, sfitem_whole.f s m = some b := by
  unfold sfitem_whole.f sfitem_Next.f
  rw [if_pos hz]
  cases rdNext s with
  | none => exact ⟨false, by simp⟩
  | some x =>
    obtain ⟨v, l, t⟩ := x
    simp only [Option.bind_some]
    rw [if_pos trivial]
    split
    · split
      · exact ⟨_, rfl⟩
      exact ⟨_, rfl⟩
    exact ⟨_, rfl⟩
theorem itoa_len (i : Int) (h : -999999999999999 ≤ i ∧ i ≤ 999999999999999) : (itoaBA i).size ≤ 16 := by
  rw [size_L, itoa_L, List.length_append]
  have h1 : (sgO i).length ≤ 1 := by unfold sgO; split <;> simp
  have h2 := dec_len 14 i.natAbs (by omega)
  omega
theorem dec_size (i : Int) (h : -999999999999999 ≤ i ∧ i ≤ 999999999999999) : (decB i).size ≤ 20 := by
  rw [size_L, dec_L, List.length_append, List.length_append, List.length_cons]
  have h1 : (sgO i).length ≤ 1 := by unfold sgO; split <;> simp
  have h2 := dec_len 11 (i.natAbs / 1000) (by omega)
  have h3 := (fr_at (i.natAbs % 1000) (by omega)).2.2.1
  omega
theorem value_any (k : ByteArray) (n i : Int) (t : ByteArray) (ht : t.size ≤ 1000) : ∃ o b, sfitem_value.f k n i t = some (o, b) ∧ o.size ≤ 2 * t.size + 20 := by
  have z0 : (⟨#[]⟩ : ByteArray).size = 0 := rfl
  unfold sfitem_value.f
  rw [if_neg (by omega)]
  by_cases hi : i < -999999999999999 ∨ 999999999999999 < i
  · rw [if_pos hi]; exact ⟨_, _, rfl, by omega⟩
  rw [if_neg hi]
  have hi' : -999999999999999 ≤ i ∧ i ≤ 999999999999999 := by omega
  have l1 := itoa_len i hi'
  have l2 := dec_size i hi'
  by_cases h1 : n = 1
  · rw [if_pos h1]; exact ⟨_, _, rfl, by omega⟩
  rw [if_neg h1]
  by_cases h2 : n = 2
  · rw [if_pos h2]; exact ⟨_, _, rfl, by omega⟩
  rw [if_neg h2]
  by_cases h6 : n = 6
  · rw [if_pos h6]
    have z1 : ((⟨#[63]⟩ : ByteArray) ++ itoaBA i).size = 1 + (itoaBA i).size := by rw [ByteArray.size_append]; rfl
    split
    · exact ⟨_, _, rfl, by omega⟩
    exact ⟨_, _, rfl, by omega⟩
  rw [if_neg h6]
  by_cases h3 : n = 3
  · rw [if_pos h3]
    by_cases hp : Plain (L t)
    · rw [text_plain t i hp]
      refine ⟨_, _, rfl, ?_⟩
      have := esc_len (L t)
      rw [size_L] at ht ⊢
      rw [L_B]
      simp only [List.length_cons, List.length_append, List.length_nil]
      rw [size_L]
      omega
    rw [text_bad t i hp]; exact ⟨_, _, rfl, by omega⟩
  rw [if_neg h3]
  by_cases h4 : n = 4
  · rw [if_pos h4]
    by_cases h0 : i = 0
    · rw [if_pos h0]
      obtain ⟨b, hb⟩ := whole_any t 4 (by omega)
      rw [hb]; exact ⟨_, _, rfl, by omega⟩
    rw [if_neg h0]; exact ⟨_, _, rfl, by omega⟩
  rw [if_neg h4]
  by_cases h5 : n = 5
  · rw [if_pos h5]
    have z2 : (((⟨#[58]⟩ : ByteArray) ++ t) ++ (⟨#[58]⟩ : ByteArray)).size = 1 + t.size + 1 := by rw [ByteArray.size_append, ByteArray.size_append]; rfl
    by_cases h0 : i = 0
    · rw [if_pos h0]
      obtain ⟨b, hb⟩ := whole_any (((⟨#[58]⟩ : ByteArray) ++ t) ++ (⟨#[58]⟩ : ByteArray)) 5 (by omega)
      rw [hb]; exact ⟨_, _, rfl, by omega⟩
    rw [if_neg h0]; exact ⟨_, _, rfl, by omega⟩
  rw [if_neg h5]; exact ⟨_, _, rfl, by omega⟩
def Short (p : S60) : Prop := p.f0.size ≤ 1000 ∧ p.f3.size ≤ 1000
theorem part_size (p : S60) (o v : ByteArray) : (partT p o v).size ≤ o.size + p.f0.size + v.size + 2 := by
  have := part_L p o v
  rw [size_L, this, List.length_append, size_L, size_L, size_L]
  split
  · simp only [List.length_cons, List.length_append]; omega
  simp only [List.length_cons]; omega
theorem tail_any : ∀ (ps : List S60) (seen : List ByteArray) (o : ByteArray), (∀ q ∈ ps, Short q) → o.size + ps.length * 4000 ≤ 1000000 → ∃ o' e, tailF ps seen o = some (o', e) ∧ o'.size ≤ o.size + ps.length * 4000
  | [], seen, o, _, _ => ⟨o, 0, by rw [tailF], by omega⟩
  | p :: ps, seen, o, hf, hz => by
    have hp := hf p (List.mem_cons_self ..)
    obtain ⟨v, b, hv, hvz⟩ := value_any p.f0 p.f1 p.f2 p.f3 hp.2
    have hp1 := hp.1
    have hp2 := hp.2
    rw [List.length_cons] at hz ⊢
    rw [tailF, hv]
    simp only [Option.bind_some]
    rw [if_neg (by simp only [Decidable.not_not]; refine ⟨by omega, by omega, by omega⟩)]
    have z0 : (⟨#[]⟩ : ByteArray).size = 0 := rfl
    by_cases hb : badP p b seen = true
    · rw [if_pos hb]; exact ⟨_, _, rfl, by omega⟩
    rw [if_neg hb]
    have hs := part_size p o v
    obtain ⟨o', e, h1, h2⟩ := tail_any ps (p.f0 :: seen) (partT p o v) (fun q hq => hf q (List.mem_cons_of_mem _ hq)) (by omega)
    exact ⟨o', e, h1, by omega⟩
theorem text_back {n i : Int} {t o : ByteArray} {l : List S60} (h : sfitem_Text.f n i t l = some (o, 0)) : IT (L o) n i (L t) l := by
  unfold sfitem_Text.f at h
  obtain ⟨⟨v, b⟩, hv, h⟩ := Option.bind_eq_some_iff.1 h
  obtain ⟨⟨o', e⟩, ho, h⟩ := Option.bind_eq_some_iff.1 h
  simp only [] at h
  cases b with
  | false => rw [if_neg (by decide)] at h; simp at h
  | true =>
    rw [if_pos rfl] at h
    by_cases he : e = 0
    · rw [if_pos he] at h
      subst he
      by_cases hz : v.size + o'.size ≤ 9223372036854775807
      · rw [if_pos hz] at h
        have h := Option.some.inj h
        simp only [Prod.mk.injEq] at h
        rw [← h.1, L_app]
        unfold sfitem_Tail.f at ho
        by_cases hl : l.length ≤ 140737488355327
        · rw [if_pos hl] at ho
          obtain ⟨u2, g1, g2⟩ := tail_back l [] ⟨#[]⟩ o' [] ho (fun q hq => by cases hq)
          rw [L_nil, List.nil_append] at g1
          rw [List.nil_append] at g2
          exact ⟨L v, L o', rfl, value_back _ _ _ _ _ hv, by rw [g1]; exact g2⟩
        rw [if_neg hl] at ho; cases ho
      rw [if_neg hz] at h; cases h
    rw [if_neg he] at h; simp at h
end Go.Proofs.YtjdbiicjfpgjkaaGreatDoor.Pl
/- Chapter 6: a member's text tells the member; a member that a text tells has a text. -/
namespace Go.Proofs.YtjdbiicjfpgjkaaGreatDoor.Pl
open Go.RowKit Go.Proofs.YtjdbiicjfpgjkaaGreatDoor.Q Go.Proofs.YtjdbiicjfpgjkaaGreatDoor.Sf Go.Proofs.YtjdbiicjfpgjkaaGreatDoorW.PrintWords Go.Proofs.YtjdbiicjfpgjkaaGreatDoorW.PrintLast
set_option linter.unusedVariables false
set_option linter.unusedSimpArgs false
theorem join_L (t : ByteArray) (ts : List ByteArray) (sep : ByteArray) : L (joinBA (t :: ts) sep) = L t ++ (ts.map (fun x => L sep ++ L x)).flatten := by
  have h := Lib.join_cons (L t) (ts.map L) (L sep)
  have e : L (joinBA (t :: ts) sep) = Lib.join (L t :: ts.map L) (L sep) := rfl
  rw [e, h]
  unfold Lib.joinTail
  rw [List.map_map]
  rfl
inductive Txs : List ByteArray → List S31 → Prop
  | nil : Txs [] []
  | cons (t : ByteArray) (x : S31) (ts : List ByteArray) (xs : List S31) (h : ITm (L t) x) (hs : Txs ts xs) : Txs (t :: ts) (x :: xs)
theorem textL_inv : ∀ (xs : List S31) (o o' : List ByteArray), textL xs o = some (o', 0) → ∃ ts, o' = o ++ ts ∧ Txs ts xs
  | [], o, o', h => by
    rw [textL] at h
    obtain ⟨rfl, _⟩ := Prod.mk.inj (Option.some.inj h)
    exact ⟨[], by simp, Txs.nil⟩
  | x :: xs, o, o', h => by
    rw [textL] at h
    obtain ⟨⟨t, e⟩, ht, h⟩ := Option.bind_eq_some_iff.1 h
    dsimp only at h
    by_cases he : e = 0
    · rw [if_neg (by simpa using he)] at h
      split at h
      · subst he
        obtain ⟨ts, h1, h2⟩ := textL_inv xs _ _ h
        exact ⟨t :: ts, by rw [h1]; simp, Txs.cons t x ts xs (text_back ht) h2⟩
      cases h
    rw [if_pos he] at h
    exact absurd (Prod.mk.inj (Option.some.inj h)).2 he
theorem Txs.nt {ts : List ByteArray} {xs : List S31} (h : Txs ts xs) (p : List UInt8) (l : List S60) (hp : PT p [] l) : ∀ its : List S31, its ≠ [] → NT ((ts.map (fun x => (32 : UInt8) :: L x)).flatten ++ 41 :: p) its (its ++ xs) l := by
  induction h with
  | nil =>
    intro its hi
    have := NT.shut [] p its l (fun _ h => by cases h) hp
    simpa using this
  | cons t x ts xs h hs ih =>
    intro its hi
    have := NT.item [32] (L t) _ x its _ l (fun c hc => List.mem_singleton.1 hc) (fun _ => by simp) h (ih (its ++ [x]) (by simp))
    simpa using this
theorem Txs.inner {ts : List ByteArray} {xs : List S31} (h : Txs ts xs) (p : List UInt8) (l : List S60) (hp : PT p [] l) : NT (L (joinBA ts ⟨#[32]⟩) ++ 41 :: p) [] xs l := by
  cases h with
  | nil => exact NT.shut [] p [] l (fun _ h => by cases h) hp
  | cons t x ts xs h hs =>
    have h1 := hs.nt p l hp [x] (by simp)
    have h2 := NT.item [] (L t) _ x [] _ l (fun _ h => by cases h) (fun h => absurd rfl h) h h1
    rw [join_L]
    have e : (ts.map (fun x => L (⟨#[32]⟩ : ByteArray) ++ L x)) = ts.map (fun x => (32 : UInt8) :: L x) := rfl
    rw [e]
    simpa using h2
theorem tail_pt {l : List S60} {u : ByteArray} (h : sfitem_Tail.f l = some (u, 0)) : PT (L u) [] l := by
  unfold sfitem_Tail.f at h
  split at h
  · obtain ⟨u2, g1, g2⟩ := tail_back l [] ⟨#[]⟩ u [] h (fun q hq => by cases hq)
    rw [L_nil, List.nil_append] at g1
    rw [List.nil_append] at g2
    rw [g1]; exact g2
  cases h
def txt (m : S34) : Option (ByteArray × Int) := sfield_text.f 0 m.f0 m.f1 m.f2.f0 m.f2.f1 m.f2.f2 m.f2.f3 m.f3 m.f4
def bareM (m : S34) : S34 := { m with f0 := ⟨#[]⟩ }
theorem parT_L (t u : ByteArray) : L (parT t u) = 40 :: (L t ++ 41 :: L u) := by
  unfold parT
  rw [L_app, L_app, L_app]
  show (([40] ++ L t) ++ [41]) ++ L u = _
  simp
theorem txt_back {m : S34} {o : ByteArray} (h : txt m = some (o, 0)) : MT (L o) (bareM m) := by
  unfold txt sfield_text.f at h
  obtain ⟨f0, f1, ⟨n, i, t, l⟩, its, ps⟩ := m
  dsimp only at h
  split at h
  · cases h
  split at h
  · rename_i hf
    split at h
    · exact absurd (Prod.mk.inj (Option.some.inj h)).2 (by decide)
    rename_i hz
    obtain rfl : its = [] := List.length_eq_zero_iff.1 (by omega)
    obtain rfl : ps = [] := List.length_eq_zero_iff.1 (by omega)
    obtain rfl : f1 = false := hf
    exact MT.itm _ ⟨n, i, t, l⟩ (text_back h)
  rename_i hf
  split at h
  · exact absurd (Prod.mk.inj (Option.some.inj h)).2 (by decide)
  rename_i hz
  obtain ⟨⟨ts, e⟩, ht, h⟩ := Option.bind_eq_some_iff.1 h
  dsimp only at h
  by_cases he : e = 0
  · rw [if_neg (by simpa using he)] at h
    subst he
    obtain ⟨⟨u, e2⟩, hu, h⟩ := Option.bind_eq_some_iff.1 h
    obtain ⟨j, hj, h⟩ := Option.bind_eq_some_iff.1 h
    split at h
    · obtain ⟨rfl, h2⟩ := Prod.mk.inj (Option.some.inj h)
      obtain rfl : e2 = 0 := h2
      obtain ⟨ts2, h3, h4⟩ := textL_inv _ _ _ ht
      obtain rfl : ts = ts2 := by simpa using h3
      have hj2 : j = joinBA ts ⟨#[32]⟩ := by
        unfold strings_Join.f at hj
        split at hj
        · exact (Option.some.inj hj).symm
        cases hj
      have h5 := h4.inner (L u) ps (tail_pt hu)
      rw [← hj2] at h5
      have h6 := MT.inn _ _ _ h5
      rw [← parT_L] at h6
      have hn : n = 0 := Classical.byContradiction fun k => hz (.inl k)
      have hi : i = 0 := Classical.byContradiction fun k => hz (.inr (.inl k))
      have htt : t = ⟨#[]⟩ := by
        have : t.toList = [] := Classical.byContradiction fun k => hz (.inr (.inr (.inl k)))
        rw [L_toList] at this
        exact eq_nil this
      have hl : l = [] := List.length_eq_zero_iff.1 (by
        have : ¬ l.length > 0 := fun k => hz (.inr (.inr (.inr k)))
        omega)
      subst hn hi htt hl
      obtain rfl : f1 = true := by simpa using hf
      exact h6
    cases h
  rw [if_pos he] at h
  exact absurd (Prod.mk.inj (Option.some.inj h)).2 he
end Go.Proofs.YtjdbiicjfpgjkaaGreatDoor.Pl
/- Chapter 5: the document's own texts of values, parameters and items are the program's. -/
namespace Go.Proofs.YtjdbiicjfpgjkaaGreatDoor.Pl
open Go.RowKit Go.Proofs.YtjdbiicjfpgjkaaGreatDoor.Q Go.Proofs.YtjdbiicjfpgjkaaGreatDoor.Sf Go.Proofs.YtjdbiicjfpgjkaaGreatDoorW.PrintWords Go.Proofs.YtjdbiicjfpgjkaaGreatDoorW.PrintLast
set_option linter.unusedVariables false
set_option linter.unusedSimpArgs false
theorem itoa_s (n : Int) (h : -9000000000000000000 ≤ n ∧ n ≤ 9000000000000000000) : strconv_Itoa.f n = some (itoaBA n) := by
  unfold strconv_Itoa.f
  rw [if_pos (by omega)]
theorem fit2 (a b : Nat) (ha : a ≤ 1000000) (hb : b ≤ 1000000) : a + b ≤ 9223372036854775807 := by omega
def dgt (d : Nat) : List UInt8 := [UInt8.ofNat (48 + d)]
def refFr (r : Nat) : List UInt8 := dgt (r / 100) ++ ((if r % 100 = 0 then [] else dgt (r / 10 % 10)) ++ (if r % 10 = 0 then [] else dgt (r % 10)))
theorem fr_ref (r : Nat) (h : r < 1000) : refFr r = frL r := by
  have h1 : ((List.range 1000).all fun r => decide (refFr r = frL r)) = true := by decide +kernel
  exact of_decide_eq_true (List.all_eq_true.1 h1 r (List.mem_range.2 h))
theorem tm1000 (a : Nat) : Int.tmod (a : Int) 1000 = ((a % 1000 : Nat) : Int) := by rw [Int.tmod_eq_emod_of_nonneg (by omega)]; omega
theorem tm100 (a : Nat) : Int.tmod (a : Int) 100 = ((a % 100 : Nat) : Int) := by rw [Int.tmod_eq_emod_of_nonneg (by omega)]; omega
theorem tm10 (a : Nat) : Int.tmod (a : Int) 10 = ((a % 10 : Nat) : Int) := by rw [Int.tmod_eq_emod_of_nonneg (by omega)]; omega
theorem td1000 (a : Nat) : Int.tdiv (a : Int) 1000 = ((a / 1000 : Nat) : Int) := by rw [Int.tdiv_eq_ediv_of_nonneg (by omega)]; omega
theorem td100 (a : Nat) : Int.tdiv (a : Int) 100 = ((a / 100 : Nat) : Int) := by rw [Int.tdiv_eq_ediv_of_nonneg (by omega)]; omega
theorem td10 (a : Nat) : Int.tdiv (a : Int) 10 = ((a / 10 : Nat) : Int) := by rw [Int.tdiv_eq_ediv_of_nonneg (by omega)]; omega
theorem wrap_nat (a : Nat) (h : a ≤ 1000000000000000) : wrap64 (a : Int) = (a : Int) := wrap_id _ (by omega)
theorem itoa_nat (a : Nat) (h : a ≤ 1000000000000000) : strconv_Itoa.f (a : Int) = some (B (Lib.decDigits a)) := by
  rw [itoa_s _ (by omega)]
  refine congrArg some (L_inj ?_)
  rw [itoa_L, L_B]
  have : sgO (a : Int) = [] := by unfold sgO; rw [if_neg (by omega)]
  rw [this, Int.natAbs_natCast, List.nil_append]
theorem itoa_one (d : Nat) (h : d < 10) : strconv_Itoa.f (d : Int) = some (B (dgt d)) := by
  rw [itoa_nat d (by omega), Lib.decDigits, dif_pos h]; rfl
theorem zd (d : Nat) : (B (dgt d)).size = 1 := by rw [size_L, L_B]; rfl
theorem dec_fin (sg q x : ByteArray) (hs : sg.size ≤ 1) (hq : q.size ≤ 12) (hx : x.size ≤ 3) : (if sg.size + q.size ≤ 9223372036854775807 then (if (sg ++ q).size + 1 ≤ 9223372036854775807 then (if ((sg ++ q) ++ (⟨#[46]⟩ : ByteArray)).size + x.size ≤ 9223372036854775807 then (some (((sg ++ q) ++ (⟨#[46]⟩ : ByteArray)) ++ x)) else (none)) else (none)) else (none)) = some (((sg ++ q) ++ (⟨#[46]⟩ : ByteArray)) ++ x) := by
  have z46 : (⟨#[46]⟩ : ByteArray).size = 1 := rfl
  have a1 : (sg ++ q).size ≤ 13 := by rw [ByteArray.size_append]; omega
  have a2 : ((sg ++ q) ++ (⟨#[46]⟩ : ByteArray)).size ≤ 14 := by rw [ByteArray.size_append]; omega
  have f1 := fit2 sg.size q.size (by omega) (by omega)
  have f2 := fit2 (sg ++ q).size 1 (by omega) (by omega)
  have f3 := fit2 ((sg ++ q) ++ (⟨#[46]⟩ : ByteArray)).size x.size (by omega) (by omega)
  rw [if_pos f1, if_pos f2, if_pos f3]
def lastD (r : Nat) : ByteArray := if r % 10 = 0 then ⟨#[]⟩ else B (dgt (r % 10))
theorem dec_j1 (k m r : Nat) (sg x : ByteArray) (hm : m ≤ 999999999999999) (hs : sg.size ≤ 1) (hx : x.size ≤ 2) : glacisref05_decimal.j1 (k + 1) (m : Int) sg (r : Int) x = some (((sg ++ B (Lib.decDigits (m / 1000))) ++ (⟨#[46]⟩ : ByteArray)) ++ (x ++ lastD r)) := by
  have hq : (B (Lib.decDigits (m / 1000))).size ≤ 12 := by rw [size_L, L_B]; exact dec_len 11 _ (by omega)
  rw [glacisref05_decimal.j1, tm10, td1000, wrap_nat _ (by omega)]
  unfold lastD
  by_cases h : r % 10 = 0
  · rw [if_pos (show ((r % 10 : Nat) : Int) = 0 by omega), itoa_nat _ (by omega), if_pos h]
    simp only [Option.bind_some]
    rw [dec_fin sg _ x hs hq (by omega)]
    congr 1
    apply L_inj
    first | (simp only [L_app]; done) | (simp only [L_app]; show _ = _ ++ (L x ++ []); rw [List.append_nil])
  have z := zd (r % 10)
  have f := fit2 x.size (B (dgt (r % 10))).size (by omega) (by omega)
  rw [if_neg (show ¬ ((r % 10 : Nat) : Int) = 0 by omega), itoa_one _ (by omega), if_neg h]
  simp only [Option.bind_some]
  rw [if_pos f, itoa_nat _ (by omega)]
  simp only [Option.bind_some]
  rw [dec_fin sg _ (x ++ B (dgt (r % 10))) hs hq (by rw [ByteArray.size_append]; omega)]
theorem dec_join (q u l : List UInt8) (sg x y : ByteArray) (hx : L x ++ L y = l) : ((sg ++ B q) ++ (⟨#[46]⟩ : ByteArray)) ++ (x ++ y) = B (L sg ++ (q ++ 46 :: l)) := by
  apply L_inj
  rw [L_app, L_app, L_app, L_app, L_B, L_B, hx]
  show ((L sg ++ q) ++ [46]) ++ l = _
  simp
theorem lastD_L (r : Nat) : L (lastD r) = if r % 10 = 0 then [] else dgt (r % 10) := by
  unfold lastD
  split
  · rfl
  exact L_B _
theorem dec_j0 (k : Nat) (hk : 3 ≤ k) (m : Nat) (hm : m ≤ 999999999999999) (sg : ByteArray) (hs : sg.size ≤ 1) : glacisref05_decimal.j0 k (m : Int) sg = some (B (L sg ++ (Lib.decDigits (m / 1000) ++ 46 :: frL (m % 1000)))) := by
  obtain ⟨k, rfl⟩ : ∃ k', k = k' + 2 := ⟨k - 2, by omega⟩
  rw [glacisref05_decimal.j0, tm1000, td100, wrap_nat _ (by omega), tm100, td10, wrap_nat _ (by omega), tm10, itoa_one _ (by omega)]
  simp only [Option.bind_some]
  rw [← fr_ref (m % 1000) (by omega)]
  have z1 := zd (m % 1000 / 100)
  by_cases h : m % 1000 % 100 = 0
  · rw [if_pos (show ((m % 1000 % 100 : Nat) : Int) = 0 by omega), dec_j1 k m (m % 1000) sg _ hm hs (by omega)]
    rw [dec_join (Lib.decDigits (m / 1000)) [] (refFr (m % 1000)) sg _ _ (by rw [L_B, lastD_L]; unfold refFr; rw [if_pos h]; rfl)]
  have z2 := zd (m % 1000 / 10 % 10)
  have f := fit2 (B (dgt (m % 1000 / 100))).size (B (dgt (m % 1000 / 10 % 10))).size (by omega) (by omega)
  rw [if_neg (show ¬ ((m % 1000 % 100 : Nat) : Int) = 0 by omega), itoa_one _ (by omega)]
  simp only [Option.bind_some]
  rw [if_pos f, dec_j1 k m (m % 1000) sg _ hm hs (by rw [ByteArray.size_append]; omega)]
  rw [dec_join (Lib.decDigits (m / 1000)) [] (refFr (m % 1000)) sg _ _ (by rw [L_app, L_B, L_B, lastD_L]; unfold refFr; rw [if_neg h, List.append_assoc])]
theorem decimal_f (k : Nat) (hk : 3 ≤ k) (i : Int) (h : -999999999999999 ≤ i ∧ i ≤ 999999999999999) : glacisref05_decimal.f k i = some (decB i) := by
  have e : decB i = B (sgO i ++ (Lib.decDigits (i.natAbs / 1000) ++ 46 :: frL (i.natAbs % 1000))) := by rw [← dec_L, B_L]
  unfold glacisref05_decimal.f
  rw [e]
  by_cases c : i < 0
  · have w : wrap64 (-i) = (i.natAbs : Int) := by rw [wrap_id _ (by omega)]; omega
    rw [if_pos c, w, dec_j0 k hk i.natAbs (by omega) _ (by decide)]
    unfold sgO
    rw [if_pos c]; rfl
  have w : i = (i.natAbs : Int) := by omega
  rw [if_neg c]
  have := dec_j0 k hk i.natAbs (by omega) ⟨#[]⟩ (by decide)
  rw [← w] at this
  rw [this]
  unfold sgO
  rw [if_neg c]; rfl
theorem esc_snoc (u : List UInt8) (c : UInt8) : esc (u ++ [c]) = esc u ++ (if c.toNat = 34 ∨ c.toNat = 92 then [92, c] else [c]) := by unfold esc; rw [List.flatMap_append, List.flatMap_singleton]
theorem quo_end (k : Nat) (t o : ByteArray) (ho : o.size ≤ 5000) (i : Int) (h : ¬ i < (t.size : Int)) : glacisref05_Value.l0 (k + 1) t o i = some (B (34 :: (L o ++ [34])), true) := by
  have z1 : ((⟨#[34]⟩ : ByteArray) ++ o).size ≤ 6000 := by rw [ByteArray.size_append]; show 1 + o.size ≤ 6000; omega
  rw [glacisref05_Value.l0, if_neg h, if_pos (fit2 _ _ (by omega) (by omega)), if_pos (fit2 _ _ (by omega) (by omega))]
  have : (((⟨#[34]⟩ : ByteArray) ++ o) ++ (⟨#[34]⟩ : ByteArray)) = B (34 :: (L o ++ [34])) := by
    apply L_inj
    rw [L_app, L_app, L_B]; rfl
  rw [this]
theorem quo_bad (k i : Nat) (t o : ByteArray) (c : UInt8) (hi : i < t.size) (hc : bt t i = (c.toNat : Int)) (h : ¬ (32 ≤ c.toNat ∧ c.toNat ≤ 126)) : glacisref05_Value.l0 (k + 2) t o (i : Int) = some (⟨#[]⟩, false) := by
  rw [glacisref05_Value.l0, if_pos (by omega), if_pos (by omega), hc]
  by_cases h1 : (c.toNat : Int) < 32
  · rw [if_pos h1, glacisref05_Value.j3, if_pos rfl]
  rw [if_neg h1, decide_eq_true (show (c.toNat : Int) > 126 by omega), glacisref05_Value.j3, if_pos rfl]
theorem quo_go (k i : Nat) (t o : ByteArray) (c : UInt8) (ht : t.size ≤ 1000) (hi : i < t.size) (ho : o.size ≤ 5000) (hc : bt t i = (c.toNat : Int)) (h : 32 ≤ c.toNat ∧ c.toNat ≤ 126) :
    ∃ o2, glacisref05_Value.l0 (k + 2) t o (i : Int) = glacisref05_Value.l0 k t o2 ((i + 1 : Nat) : Int) ∧ L o2 = L o ++ (if c.toNat = 34 ∨ c.toNat = 92 then [92, c] else [c]) := by
  have p1 : ((i : Int)) ≤ (((i + 1 : Nat) : Int)) := by omega
  have p2 : (((i + 1 : Nat) : Int)) ≤ (t.size : Int) := by omega
  have p3 : (0 : Int) ≤ (i : Int) := by omega
  have p4 : (i : Int) < (t.size : Int) := by omega
  have hw := wrap_next i (by omega)
  have hl : i < (L t).length := by rw [← size_L]; exact hi
  have e1 : L (t.extract i (i + 1)) = [c] := by
    rw [L_extm, drop_cons _ _ hl, show i + 1 - i = 1 by omega]
    have : (L t)[i] = c := u_eq (by rw [← bt_L t i hl, hc])
    rw [this]; rfl
  have z1 := ext_size t i hi
  have z2 : (o ++ (⟨#[92]⟩ : ByteArray)).size ≤ 6000 := by rw [ByteArray.size_append]; show o.size + 1 ≤ 6000; omega
  have n1 : ¬ (c.toNat : Int) < 32 := by omega
  have n2 : ¬ (c.toNat : Int) > 126 := by omega
  have f1 := fit2 o.size 1 (by omega) (by omega)
  have f2 := fit2 (o ++ (⟨#[92]⟩ : ByteArray)).size (t.extract i (i + 1)).size (by omega) (by omega)
  have f3 := fit2 o.size (t.extract i (i + 1)).size (by omega) (by omega)
  rw [glacisref05_Value.l0, if_pos p4, if_pos p3, hc, if_neg n1, decide_eq_false n2, glacisref05_Value.j3, if_neg (by decide), if_pos p3, if_pos p4, hc, hw]
  simp only [Int.toNat_natCast]
  by_cases c34 : (c.toNat : Int) = 34
  · refine ⟨(o ++ (⟨#[92]⟩ : ByteArray)) ++ t.extract i (i + 1), ?_, ?_⟩
    · rw [if_pos c34, if_pos f1, if_pos p1, if_pos p2, if_pos f2]
    rw [L_app, L_app, e1, if_pos (Or.inl (by omega))]
    show (L o ++ [92]) ++ [c] = _
    simp
  rw [if_neg c34]
  by_cases c92 : (c.toNat : Int) = 92
  · refine ⟨(o ++ (⟨#[92]⟩ : ByteArray)) ++ t.extract i (i + 1), ?_, ?_⟩
    · rw [if_pos c92, if_pos f1, if_pos p1, if_pos p2, if_pos f2]
    rw [L_app, L_app, e1, if_pos (Or.inr (by omega))]
    show (L o ++ [92]) ++ [c] = _
    simp
  refine ⟨o ++ t.extract i (i + 1), ?_, ?_⟩
  · rw [if_neg c92, if_pos p1, if_pos p2, if_pos f3]
  rw [L_app, e1, if_neg (by omega)]
theorem quo_l (t : ByteArray) (ht : t.size ≤ 1000) : ∀ (m i k : Nat) (o : ByteArray), i + m = t.size → 2 * m < k → L o = esc ((L t).take i) → Plain ((L t).take i) →
    ∃ o' b, glacisref05_Value.l0 k t o (i : Int) = some (o', b) ∧ (b = true ↔ Plain (L t)) ∧ (Plain (L t) → o' = B (34 :: (esc (L t) ++ [34])))
  | 0, i, k, o, hm, hk, ho, hp => by
    obtain ⟨k, rfl⟩ : ∃ k', k = k' + 1 := ⟨k - 1, by omega⟩
    have e : (L t).take i = L t := List.take_of_length_le (by rw [← size_L]; omega)
    rw [e] at ho hp
    have hz : o.size ≤ 5000 := by
      have := esc_len (L t)
      rw [size_L, ho]
      rw [size_L] at ht
      omega
    exact ⟨_, true, quo_end k t o hz i (by omega), ⟨fun _ => hp, fun _ => rfl⟩, fun _ => by rw [ho]⟩
  | m + 1, i, k, o, hm, hk, ho, hp => by
    obtain ⟨k, rfl⟩ : ∃ k', k = k' + 2 := ⟨k - 2, by omega⟩
    have hi : i < t.size := by omega
    have hl : i < (L t).length := by rw [← size_L]; exact hi
    have hc : bt t i = ((L t)[i].toNat : Int) := bt_L t i hl
    have et := take_snoc (L t) i hl
    by_cases h : 32 ≤ (L t)[i].toNat ∧ (L t)[i].toNat ≤ 126
    · have hz : o.size ≤ 5000 := by
        have := esc_len ((L t).take i)
        rw [size_L, ho]
        rw [size_L] at ht
        rw [List.length_take] at this
        omega
      obtain ⟨o2, h1, h2⟩ := quo_go k i t o _ ht hi hz hc h
      rw [h1]
      refine quo_l t ht m (i + 1) k o2 (by omega) (by omega) ?_ ?_
      · rw [h2, ho, et, esc_snoc]
      rw [et]
      intro c hcm
      rcases List.mem_append.1 hcm with hcm | hcm
      · exact hp c hcm
      rw [List.mem_singleton.1 hcm]; exact h
    have hn : ¬ Plain (L t) := fun hP => h (hP _ (List.getElem_mem hl))
    exact ⟨⟨#[]⟩, false, quo_bad k i t o _ hi hc h, ⟨fun e => by (cases e), fun hP => absurd hP hn⟩, fun hP => absurd hP hn⟩
theorem rd_whole {s : ByteArray} {n i : Int} {t : List UInt8} (h : VT (L s) n i t) : rdValue s = some ((n, i, B t), B []) := value_read h [] Ends.nil s (by simp)
theorem tok_case (t : ByteArray) (ht : t.size ≤ 20000) (k : Nat) (hk : 50000 < k) (m : Int) : ∃ b, sfitem_whole.f t m = some b ∧ ((glacisref05_value.f k t).bind fun bt310 => (if bt310.2.2.2.2.2 = true then (if bt310.2.2.2.2.1.toList = ([] : List UInt8) then some (t, (bt310.2.1 == m)) else some (t, false)) else some (t, false))) = some (t, b) := by
  rw [value_f t (by omega) k (by omega)]
  simp only [Option.bind_some]
  cases hV : rdValue t with
  | none =>
    refine ⟨false, ?_, by rw [if_neg (show ¬ (refV none).2.2.2.2.2 = true by decide)]⟩
    obtain ⟨b, hb⟩ := whole_any t m (by omega)
    cases b with
    | false => exact hb
    | true =>
      obtain ⟨i, t', h⟩ := whole_inv hb
      rw [rd_whole h] at hV; cases hV
  | some vr =>
    obtain ⟨⟨n, i, tx⟩, r⟩ := vr
    rw [if_pos (show (refV (some ((n, i, tx), r))).2.2.2.2.2 = true from rfl)]
    by_cases hr : r.toList = ([] : List UInt8)
    · obtain ⟨u, a1, a2⟩ := value_inv hV
      rw [L_toList] at hr
      rw [hr, List.append_nil] at a1
      rw [← a1] at a2
      refine ⟨decide (n = m), whole_of a2 (by omega) m, ?_⟩
      rw [if_pos (show (refV (some ((n, i, tx), r))).2.2.2.2.1.toList = ([] : List UInt8) by rw [L_toList]; exact hr)]
      show some (t, (n == m)) = _
      rw [show (n == m) = decide (n = m) from rfl]
    refine ⟨false, ?_, by rw [if_neg (show ¬ (refV (some ((n, i, tx), r))).2.2.2.2.1.toList = ([] : List UInt8) from hr)]⟩
    obtain ⟨b, hb⟩ := whole_any t m (by omega)
    cases b with
    | false => exact hb
    | true =>
      obtain ⟨i', t', h⟩ := whole_inv hb
      rw [rd_whole h] at hV
      have hV := Option.some.inj hV
      simp only [Prod.mk.injEq] at hV
      rw [← hV.2, L_toList, L_B] at hr
      exact absurd rfl hr
theorem byt_case (t : ByteArray) (ht : t.size ≤ 1000) (k : Nat) (hk : 50000 < k) : ∃ b, sfitem_whole.f (((⟨#[58]⟩ : ByteArray) ++ t) ++ (⟨#[58]⟩ : ByteArray)) 5 = some b ∧ ((glacisref05_value.f k (((⟨#[58]⟩ : ByteArray) ++ t) ++ (⟨#[58]⟩ : ByteArray))).bind fun bt317 => (if bt317.2.2.2.2.2 = true then (if bt317.2.2.2.2.1.toList = ([] : List UInt8) then (if bt317.2.1 = 5 then (some (((⟨#[58]⟩ : ByteArray) ++ t) ++ (⟨#[58]⟩ : ByteArray), (bt317.2.2.2.1.toList == t.toList))) else (some (((⟨#[58]⟩ : ByteArray) ++ t) ++ (⟨#[58]⟩ : ByteArray), false))) else (some (((⟨#[58]⟩ : ByteArray) ++ t) ++ (⟨#[58]⟩ : ByteArray), false))) else (some (((⟨#[58]⟩ : ByteArray) ++ t) ++ (⟨#[58]⟩ : ByteArray), false)))) = some (((⟨#[58]⟩ : ByteArray) ++ t) ++ (⟨#[58]⟩ : ByteArray), b) := by
  have eL : L (((⟨#[58]⟩ : ByteArray) ++ t) ++ (⟨#[58]⟩ : ByteArray)) = 58 :: (L t ++ [58]) := by rw [L_app, L_app]; rfl
  have hz : (((⟨#[58]⟩ : ByteArray) ++ t) ++ (⟨#[58]⟩ : ByteArray)).size ≤ 2000 := by rw [size_L, eL]; rw [size_L] at ht; simp only [List.length_cons, List.length_append, List.length_nil]; omega
  generalize ((⟨#[58]⟩ : ByteArray) ++ t) ++ (⟨#[58]⟩ : ByteArray) = s at *
  rw [value_f s (by omega) k (by omega)]
  simp only [Option.bind_some]
  cases hV : rdValue s with
  | none =>
    refine ⟨false, ?_, by rw [if_neg (show ¬ (refV none).2.2.2.2.2 = true by decide)]⟩
    obtain ⟨b, hb⟩ := whole_any s 5 (by omega)
    cases b with
    | false => exact hb
    | true =>
      obtain ⟨i, t', h⟩ := whole_inv hb
      rw [rd_whole h] at hV; cases hV
  | some vr =>
    obtain ⟨⟨n, i, tx⟩, r⟩ := vr
    rw [if_pos (show (refV (some ((n, i, tx), r))).2.2.2.2.2 = true from rfl)]
    by_cases hr : r.toList = ([] : List UInt8)
    · obtain ⟨u, a1, a2⟩ := value_inv hV
      rw [L_toList] at hr
      rw [hr, List.append_nil] at a1
      rw [← a1] at a2
      refine ⟨decide (n = 5), whole_of a2 (by omega) 5, ?_⟩
      rw [if_pos (show (refV (some ((n, i, tx), r))).2.2.2.2.1.toList = ([] : List UInt8) by rw [L_toList]; exact hr)]
      by_cases h5 : n = 5
      · rw [if_pos (show (refV (some ((n, i, tx), r))).2.1 = 5 from h5), decide_eq_true h5]
        have a3 : VT (L s) 5 i (L tx) := by rw [← h5]; exact a2
        obtain ⟨_, hu⟩ := byt_inv a3
        rw [eL] at hu
        have : L t = L tx := by simpa using hu
        show some (s, (tx.toList == t.toList)) = _
        rw [L_toList, L_toList, this]; simp
      rw [if_neg (show ¬ (refV (some ((n, i, tx), r))).2.1 = 5 from h5), decide_eq_false h5]
    refine ⟨false, ?_, by rw [if_neg (show ¬ (refV (some ((n, i, tx), r))).2.2.2.2.1.toList = ([] : List UInt8) from hr)]⟩
    obtain ⟨b, hb⟩ := whole_any s 5 (by omega)
    cases b with
    | false => exact hb
    | true =>
      obtain ⟨i', t', h⟩ := whole_inv hb
      rw [rd_whole h] at hV
      have hV := Option.some.inj hV
      simp only [Prod.mk.injEq] at hV
      rw [← hV.2, L_toList, L_B] at hr
      exact absurd rfl hr
end Go.Proofs.YtjdbiicjfpgjkaaGreatDoor.Pl
/- Chapter 5: the document's own texts of values, parameters and items are the program's: all kinds. -/
namespace Go.Proofs.YtjdbiicjfpgjkaaGreatDoor.Pl
open Go.RowKit Go.Proofs.YtjdbiicjfpgjkaaGreatDoor.Q Go.Proofs.YtjdbiicjfpgjkaaGreatDoor.Sf Go.Proofs.YtjdbiicjfpgjkaaGreatDoorW.PrintWords Go.Proofs.YtjdbiicjfpgjkaaGreatDoorW.PrintLast
set_option linter.unusedVariables false
set_option linter.unusedSimpArgs false
def Small15 (i : Int) : Prop := -999999999999999 ≤ i ∧ i ≤ 999999999999999
theorem v_no (k : Nat) (n i : Int) (t : ByteArray) : glacisref05_Value.j1 (k + 1) n i t true = some (⟨#[]⟩, false) := by
  rw [glacisref05_Value.j1, if_pos rfl]
theorem v_j0 (k : Nat) (n i : Int) (t : ByteArray) (b : Bool) (h : (b = true ∧ ¬ t.toList = ([] : List UInt8)) ∨ (b = false ∧ ¬ i = 0) ∨ i < -999999999999999 ∨ i > 999999999999999) : glacisref05_Value.j0 (k + 2) n i t b = some (⟨#[]⟩, false) := by
  rw [glacisref05_Value.j0]
  have hr : (if i < (-999999999999999) then glacisref05_Value.j1 (k + 1) n i t true else glacisref05_Value.j1 (k + 1) n i t (decide (i > 999999999999999))) = some (⟨#[]⟩, false) ∨ ¬ (i < -999999999999999 ∨ i > 999999999999999) := by
    by_cases h1 : i < -999999999999999
    · exact Or.inl (by rw [if_pos h1]; exact v_no k n i t)
    by_cases h2 : i > 999999999999999
    · exact Or.inl (by rw [if_neg h1, decide_eq_true h2]; exact v_no k n i t)
    exact Or.inr (by rintro (h | h); exact h1 h; exact h2 h)
  cases b with
  | true =>
    rw [if_pos rfl]
    by_cases ht : t.toList = ([] : List UInt8)
    · rw [if_pos ht]
      rcases hr with hr | hr
      · exact hr
      rcases h with h | h | h
      · exact absurd ht h.2
      · exact absurd h.1 (by decide)
      exact absurd h hr
    · rw [if_neg ht]; exact v_no k n i t
  | false =>
    rw [if_neg (by decide)]
    by_cases h0 : i = 0
    · rw [if_pos h0]
      rcases hr with hr | hr
      · exact hr
      rcases h with h | h | h
      · exact absurd h.1 (by decide)
      · exact absurd h0 h.2
      exact absurd h hr
    rw [if_neg h0]; exact v_no k n i t
theorem v_yes (k : Nat) (n i : Int) (t : ByteArray) (b : Bool) (h : Small15 i) (hb : (b = true ∧ t.toList = ([] : List UInt8)) ∨ (b = false ∧ i = 0)) : glacisref05_Value.j0 (k + 2) n i t b = glacisref05_Value.j1 (k + 1) n i t false := by
  have h1 : ¬ i < -999999999999999 := by unfold Small15 at h; omega
  have h2 : ¬ i > 999999999999999 := by unfold Small15 at h; omega
  rw [glacisref05_Value.j0]
  rcases hb with ⟨rfl, ht⟩ | ⟨rfl, h0⟩
  · rw [if_pos rfl, if_pos ht, if_neg h1, decide_eq_false h2]
  rw [if_neg (by decide), if_pos h0, if_neg h1, decide_eq_false h2]
theorem v_num (k : Nat) (n i : Int) (t : ByteArray) (h : n = 1 ∨ n = 2 ∨ n = 6) : glacisref05_Value.f k n i t = glacisref05_Value.j0 k n i t true := by
  unfold glacisref05_Value.f
  by_cases h1 : n = 1
  · rw [if_pos h1]
  rw [if_neg h1]
  by_cases h2 : n = 2
  · rw [if_pos h2]
  rw [if_neg h2]
  have h6 : n = 6 := by rcases h with h | h | h; exact absurd h h1; exact absurd h h2; exact h
  rw [h6]; rfl
theorem v_oth (k : Nat) (n i : Int) (t : ByteArray) (h1 : n ≠ 1) (h2 : n ≠ 2) (h6 : n ≠ 6) : glacisref05_Value.f k n i t = glacisref05_Value.j0 k n i t false := by
  unfold glacisref05_Value.f
  rw [if_neg h1, if_neg h2, beq_eq_false_iff_ne.2 h6]
theorem flag_zero : (Go.bits .andNot .i64 0 1 == 0) = true := by decide +kernel
theorem flag_one : (Go.bits .andNot .i64 1 1 == 0) = true := by decide +kernel
theorem Value_f (key : ByteArray) (n i : Int) (t : ByteArray) (ht : t.size ≤ 1000) (k : Nat) (hk : 100000 < k) : ∃ o b o', sfitem_value.f key n i t = some (o, b) ∧ glacisref05_Value.f k n i t = some (o', b) ∧ (b = true → o' = o) ∧ o.size ≤ 2 * t.size + 20 := by
  obtain ⟨o, b, hv, hvz⟩ := value_any key n i t ht
  obtain ⟨k, rfl⟩ : ∃ k', k = k' + 2 := ⟨k - 2, by omega⟩
  by_cases hi : i < -999999999999999 ∨ 999999999999999 < i
  · have e : sfitem_value.f key n i t = some (⟨#[]⟩, false) := by
      unfold sfitem_value.f
      rw [if_neg (by omega), if_pos hi]
    have e2 : glacisref05_Value.f (k + 2) n i t = some (⟨#[]⟩, false) := by
      by_cases h : n = 1 ∨ n = 2 ∨ n = 6
      · rw [v_num _ _ _ _ h]; exact v_j0 k n i t true (Or.inr (Or.inr hi))
      rw [v_oth _ _ _ _ (fun e => h (Or.inl e)) (fun e => h (Or.inr (Or.inl e))) (fun e => h (Or.inr (Or.inr e)))]; exact v_j0 k n i t false (Or.inr (Or.inr hi))
    exact ⟨_, _, _, e, e2, fun _ => rfl, by show (0 : Nat) ≤ _; omega⟩
  have hs : Small15 i := by unfold Small15; omega
  have hz : ¬ ¬ t.size ≤ 2199023255540 := by omega
  have etl : t.toList.isEmpty = decide (t.toList = ([] : List UInt8)) := by
    cases t.toList with
    | nil => rfl
    | cons a l => rfl
  by_cases h1 : n = 1
  · have e : sfitem_value.f key n i t = some (itoaBA i, t.toList.isEmpty) := by unfold sfitem_value.f; rw [if_neg hz, if_neg hi, if_pos h1]
    have hz2 : (itoaBA i).size ≤ 2 * t.size + 20 := by have := itoa_len i hs; omega
    rw [v_num _ _ _ _ (Or.inl h1)]
    by_cases he : t.toList = ([] : List UInt8)
    · refine ⟨_, _, itoaBA i, e, ?_, fun _ => rfl, hz2⟩
      rw [v_yes k n i t true hs (Or.inl ⟨rfl, he⟩), glacisref05_Value.j1, if_neg (by decide), if_pos h1, itoa_s i (by unfold Small15 at hs; omega), etl, decide_eq_true he]
      rfl
    refine ⟨_, _, ⟨#[]⟩, e, ?_, fun h => ?_, hz2⟩
    · rw [v_j0 k n i t true (Or.inl ⟨rfl, he⟩), etl, decide_eq_false he]
    rw [etl, decide_eq_false he] at h; cases h
  by_cases h2 : n = 2
  · have e : sfitem_value.f key n i t = some (decB i, t.toList.isEmpty) := by unfold sfitem_value.f; rw [if_neg hz, if_neg hi, if_neg h1, if_pos h2]
    have hz2 : (decB i).size ≤ 2 * t.size + 20 := by have := dec_size i hs; omega
    rw [v_num _ _ _ _ (Or.inr (Or.inl h2))]
    by_cases he : t.toList = ([] : List UInt8)
    · refine ⟨_, _, decB i, e, ?_, fun _ => rfl, hz2⟩
      rw [v_yes k n i t true hs (Or.inl ⟨rfl, he⟩), glacisref05_Value.j1, if_neg (by decide), if_neg h1, if_pos h2, decimal_f k (by omega) i hs, etl, decide_eq_true he]
      rfl
    refine ⟨_, _, ⟨#[]⟩, e, ?_, fun h => ?_, hz2⟩
    · rw [v_j0 k n i t true (Or.inl ⟨rfl, he⟩), etl, decide_eq_false he]
    rw [etl, decide_eq_false he] at h; cases h
  by_cases h6 : n = 6
  · have hz2 : ((⟨#[63]⟩ : ByteArray) ++ itoaBA i).size ≤ 2 * t.size + 20 := by have := itoa_len i hs; rw [ByteArray.size_append]; show 1 + _ ≤ _; omega
    have hz3 : 1 + (itoaBA i).size ≤ 9223372036854775807 := by have := itoa_len i hs; exact fit2 _ _ (by omega) (by omega)
    rw [v_num _ _ _ _ (Or.inr (Or.inr h6))]
    by_cases he : t.toList = ([] : List UInt8)
    · have e : sfitem_value.f key n i t = some ((⟨#[63]⟩ : ByteArray) ++ itoaBA i, Go.bits .andNot .i64 i 1 == 0) := by unfold sfitem_value.f; rw [if_neg hz, if_neg hi, if_neg h1, if_neg h2, if_pos h6, if_pos (beq_iff_eq.2 he)]
      refine ⟨_, _, (⟨#[63]⟩ : ByteArray) ++ itoaBA i, e, ?_, fun _ => rfl, hz2⟩
      rw [v_yes k n i t true hs (Or.inl ⟨rfl, he⟩), glacisref05_Value.j1, if_neg (by decide), if_neg h1, if_neg h2, if_pos h6, itoa_s i (by unfold Small15 at hs; omega)]
      simp only [Option.bind_some]
      rw [if_pos hz3]
      by_cases z0 : i = 0
      · subst z0; rw [if_pos rfl, flag_zero]
      rw [if_neg z0]
      by_cases z1 : i = 1
      · subst z1; rw [flag_one]; rfl
      have : (Go.bits .andNot .i64 i 1 == 0) = false := by
        cases hb : (Go.bits .andNot .i64 i 1 == 0) with
        | false => rfl
        | true => rcases flag_of i hs hb with h | h; exact absurd h z0; exact absurd h z1
      rw [this, beq_eq_false_iff_ne.2 z1]
    have e : sfitem_value.f key n i t = some ((⟨#[63]⟩ : ByteArray) ++ itoaBA i, false) := by unfold sfitem_value.f; rw [if_neg hz, if_neg hi, if_neg h1, if_neg h2, if_pos h6, if_neg (by rw [beq_iff_eq]; exact he)]
    exact ⟨_, _, ⟨#[]⟩, e, v_j0 k n i t true (Or.inl ⟨rfl, he⟩), fun h => (by cases h), hz2⟩
  rw [v_oth _ _ _ _ h1 h2 h6]
  by_cases h3 : n = 3
  · have e : sfitem_value.f key n i t = some (textF i t) := by unfold sfitem_value.f; rw [if_neg hz, if_neg hi, if_neg h1, if_neg h2, if_neg h6, if_pos h3]
    have hzt : (textF i t).1.size ≤ 2 * t.size + 20 := by
      rw [e] at hv; have := Option.some.inj hv
      rw [this]; exact hvz
    by_cases h0 : i = 0
    · have hq := quo_l t ht t.size 0 k ⟨#[]⟩ (by omega) (by omega) rfl (fun c hc => by cases hc)
      obtain ⟨o', b', q1, q2, q3⟩ := hq
      have e2 : glacisref05_Value.j0 (k + 2) n i t false = some (o', b') := by
        rw [v_yes k n i t false hs (Or.inr ⟨rfl, h0⟩), glacisref05_Value.j1, if_neg (by decide), if_neg h1, if_neg h2, if_neg h6, if_pos h3]
        exact q1
      by_cases hp : Plain (L t)
      · have eb : b' = true := q2.2 hp
        subst eb
        rw [text_plain t i hp] at e hzt
        have : (i == 0) = true := beq_iff_eq.2 h0
        rw [this] at e
        exact ⟨_, _, o', e, e2, fun _ => q3 hp, hzt⟩
      have eb : b' = false := by
        cases b' with
        | false => rfl
        | true => exact absurd (q2.1 rfl) hp
      subst eb
      rw [text_bad t i hp] at e
      have hzz : (⟨#[]⟩ : ByteArray).size ≤ 2 * t.size + 20 := by show (0 : Nat) ≤ _; omega
      exact ⟨_, _, o', e, e2, fun h => (by cases h), hzz⟩
    have e2 := v_j0 k n i t false (Or.inr (Or.inl ⟨rfl, h0⟩))
    have eb : (textF i t).2 = false := by
      by_cases hp : Plain (L t)
      · rw [text_plain t i hp]; exact beq_eq_false_iff_ne.2 h0
      rw [text_bad t i hp]
    have e' : sfitem_value.f key n i t = some ((textF i t).1, false) := by rw [e, ← eb]
    exact ⟨_, _, _, e', e2, fun h => (by cases h), hzt⟩
  by_cases h4 : n = 4
  · by_cases h0 : i = 0
    · obtain ⟨b, c1, c2⟩ := tok_case t (by omega) k (by omega) 4
      have e : sfitem_value.f key n i t = some (t, b) := by unfold sfitem_value.f; rw [if_neg hz, if_neg hi, if_neg h1, if_neg h2, if_neg h6, if_neg h3, if_pos h4, if_pos h0, c1]; rfl
      refine ⟨_, _, t, e, ?_, fun _ => rfl, by omega⟩
      rw [v_yes k n i t false hs (Or.inr ⟨rfl, h0⟩), glacisref05_Value.j1, if_neg (by decide), if_neg h1, if_neg h2, if_neg h6, if_neg h3, if_pos h4]
      exact c2
    have e : sfitem_value.f key n i t = some (t, false) := by unfold sfitem_value.f; rw [if_neg hz, if_neg hi, if_neg h1, if_neg h2, if_neg h6, if_neg h3, if_pos h4, if_neg h0]
    exact ⟨_, _, _, e, v_j0 k n i t false (Or.inr (Or.inl ⟨rfl, h0⟩)), fun h => (by cases h), by omega⟩
  by_cases h5 : n = 5
  · have z2 : (((⟨#[58]⟩ : ByteArray) ++ t) ++ (⟨#[58]⟩ : ByteArray)).size = 1 + t.size + 1 := by rw [ByteArray.size_append, ByteArray.size_append]; rfl
    have z3 : ((⟨#[58]⟩ : ByteArray) ++ t).size = 1 + t.size := by rw [ByteArray.size_append]; rfl
    by_cases h0 : i = 0
    · obtain ⟨b, c1, c2⟩ := byt_case t ht k (by omega)
      have e : sfitem_value.f key n i t = some (((⟨#[58]⟩ : ByteArray) ++ t) ++ (⟨#[58]⟩ : ByteArray), b) := by unfold sfitem_value.f; rw [if_neg hz, if_neg hi, if_neg h1, if_neg h2, if_neg h6, if_neg h3, if_neg h4, if_pos h5, if_pos h0, c1]; rfl
      refine ⟨_, _, ((⟨#[58]⟩ : ByteArray) ++ t) ++ (⟨#[58]⟩ : ByteArray), e, ?_, fun _ => rfl, by omega⟩
      have f1 := fit2 1 t.size (by omega) (by omega)
      have f2 := fit2 ((⟨#[58]⟩ : ByteArray) ++ t).size 1 (by omega) (by omega)
      rw [v_yes k n i t false hs (Or.inr ⟨rfl, h0⟩), glacisref05_Value.j1, if_neg (by decide), if_neg h1, if_neg h2, if_neg h6, if_neg h3, if_neg h4, if_pos h5, if_pos f1, if_pos f2]
      exact c2
    have e : sfitem_value.f key n i t = some (((⟨#[58]⟩ : ByteArray) ++ t) ++ (⟨#[58]⟩ : ByteArray), false) := by unfold sfitem_value.f; rw [if_neg hz, if_neg hi, if_neg h1, if_neg h2, if_neg h6, if_neg h3, if_neg h4, if_pos h5, if_neg h0]
    exact ⟨_, _, _, e, v_j0 k n i t false (Or.inr (Or.inl ⟨rfl, h0⟩)), fun h => (by cases h), by omega⟩
  have e : sfitem_value.f key n i t = some (⟨#[]⟩, false) := by unfold sfitem_value.f; rw [if_neg hz, if_neg hi, if_neg h1, if_neg h2, if_neg h6, if_neg h3, if_neg h4, if_neg h5]
  have hzz : (⟨#[]⟩ : ByteArray).size ≤ 2 * t.size + 20 := by show (0 : Nat) ≤ _; omega
  by_cases h0 : i = 0
  · refine ⟨_, _, ⟨#[]⟩, e, ?_, fun _ => rfl, hzz⟩
    rw [v_yes k n i t false hs (Or.inr ⟨rfl, h0⟩), glacisref05_Value.j1, if_neg (by decide), if_neg h1, if_neg h2, if_neg h6, if_neg h3, if_neg h4, if_neg h5]
  exact ⟨_, _, ⟨#[]⟩, e, v_j0 k n i t false (Or.inr (Or.inl ⟨rfl, h0⟩)), fun _ => rfl, hzz⟩
end Go.Proofs.YtjdbiicjfpgjkaaGreatDoor.Pl
/- Chapter 5: the document's own text of parameters and items is the program's. -/
namespace Go.Proofs.YtjdbiicjfpgjkaaGreatDoor.Pl
open Go.RowKit Go.Proofs.YtjdbiicjfpgjkaaGreatDoor.Q Go.Proofs.YtjdbiicjfpgjkaaGreatDoor.Sf Go.Proofs.YtjdbiicjfpgjkaaGreatDoorW.PrintWords Go.Proofs.YtjdbiicjfpgjkaaGreatDoorW.PrintLast
set_option linter.unusedVariables false
set_option linter.unusedSimpArgs false
theorem flag_any {u : List UInt8} {i : Int} {t : List UInt8} (h : VT u 6 i t) : i = 0 ∨ i = 1 := by
  by_cases c : i = 0
  · exact Or.inl c
  exact Or.inr (flag_inv h c).1
theorem tail_cont (k j : Nat) (l : List S60) (o v : ByteArray) (hl : l.length ≤ 100) (hj : j < l.length) (ho : o.size ≤ 900000) (hk : l[j].f0.size ≤ 1000) (hv : v.size ≤ 5000) (hf : l[j].f1 = 6 → l[j].f2 = 0 ∨ l[j].f2 = 1) :
    (if o.size + 1 ≤ 9223372036854775807 then (if (o ++ (⟨#[59]⟩ : ByteArray)).size + l[j].f0.size ≤ 9223372036854775807 then (if 0 ≤ (j : Int) then (if (j : Int) < (l.length : Int) then (if ((rd_T60 l (j : Int)).f1) = 6 then (if ((rd_T60 l (j : Int)).f2) = 1 then (glacisref05_Tail.l0 k l ((o ++ (⟨#[59]⟩ : ByteArray)) ++ l[j].f0) (wrap64 ((j : Int) + 1))) else (if ((o ++ (⟨#[59]⟩ : ByteArray)) ++ l[j].f0).size + 1 ≤ 9223372036854775807 then (if (((o ++ (⟨#[59]⟩ : ByteArray)) ++ l[j].f0) ++ (⟨#[61]⟩ : ByteArray)).size + v.size ≤ 9223372036854775807 then (glacisref05_Tail.l0 k l ((((o ++ (⟨#[59]⟩ : ByteArray)) ++ l[j].f0) ++ (⟨#[61]⟩ : ByteArray)) ++ v) (wrap64 ((j : Int) + 1))) else (none)) else (none))) else (if ((o ++ (⟨#[59]⟩ : ByteArray)) ++ l[j].f0).size + 1 ≤ 9223372036854775807 then (if (((o ++ (⟨#[59]⟩ : ByteArray)) ++ l[j].f0) ++ (⟨#[61]⟩ : ByteArray)).size + v.size ≤ 9223372036854775807 then (glacisref05_Tail.l0 k l ((((o ++ (⟨#[59]⟩ : ByteArray)) ++ l[j].f0) ++ (⟨#[61]⟩ : ByteArray)) ++ v) (wrap64 ((j : Int) + 1))) else (none)) else (none))) else (none)) else (none)) else (none)) else (none)) =
    glacisref05_Tail.l0 k l (partT l[j] o v) ((j + 1 : Nat) : Int) := by
  have z59 : (⟨#[59]⟩ : ByteArray).size = 1 := rfl
  have z61 : (⟨#[61]⟩ : ByteArray).size = 1 := rfl
  have s1 : (o ++ (⟨#[59]⟩ : ByteArray)).size ≤ 900001 := by rw [ByteArray.size_append]; omega
  have s2 : ((o ++ (⟨#[59]⟩ : ByteArray)) ++ l[j].f0).size ≤ 901001 := by rw [ByteArray.size_append]; omega
  have s3 : (((o ++ (⟨#[59]⟩ : ByteArray)) ++ l[j].f0) ++ (⟨#[61]⟩ : ByteArray)).size ≤ 901002 := by rw [ByteArray.size_append]; omega
  have p3 : (0 : Int) ≤ (j : Int) := by omega
  have p4 : (j : Int) < (l.length : Int) := by omega
  have hw := wrap_next j (by omega)
  have f1 := fit2 o.size 1 (by omega) (by omega)
  have f2 := fit2 (o ++ (⟨#[59]⟩ : ByteArray)).size l[j].f0.size (by omega) (by omega)
  have f3 := fit2 ((o ++ (⟨#[59]⟩ : ByteArray)) ++ l[j].f0).size 1 (by omega) (by omega)
  have f4 := fit2 (((o ++ (⟨#[59]⟩ : ByteArray)) ++ l[j].f0) ++ (⟨#[61]⟩ : ByteArray)).size v.size (by omega) (by omega)
  rw [if_pos f1, if_pos f2, if_pos p3, if_pos p4, rd_at5 l j hj, hw]
  have eA : partT l[j] o v = if l[j].f1 ≠ 6 ∨ l[j].f2 = 0 then (((o ++ (⟨#[59]⟩ : ByteArray)) ++ l[j].f0) ++ (⟨#[61]⟩ : ByteArray)) ++ v else (o ++ (⟨#[59]⟩ : ByteArray)) ++ l[j].f0 := by
    apply L_inj
    rw [part_L]
    split
    · rw [L_app, L_app, L_app, L_app]
      show _ = (((L o ++ [59]) ++ L l[j].f0) ++ [61]) ++ L v
      simp
    rw [L_app, L_app]
    show _ = (L o ++ [59]) ++ L l[j].f0
    simp
  by_cases h6 : l[j].f1 = 6
  · rw [if_pos h6]
    by_cases h1 : l[j].f2 = 1
    · rw [if_pos h1, eA, if_neg (by rintro (h | h); exact h h6; rw [h1] at h; cases h)]
    have h0 : l[j].f2 = 0 := (hf h6).resolve_right h1
    rw [if_neg h1, if_pos f3, if_pos f4, eA, if_pos (Or.inr h0)]
  rw [if_neg h6, if_pos f3, if_pos f4, eA, if_pos (Or.inl h6)]
theorem tail_l1 (l : List S60) (o v : ByteArray) (j : Nat) (hl : l.length ≤ 100) (hj : j < l.length) (ho : o.size ≤ 900000) (hk : l[j].f0.size ≤ 1000) (hv : v.size ≤ 5000) (hf : l[j].f1 = 6 → l[j].f2 = 0 ∨ l[j].f2 = 1) : ∀ (m x k : Nat), x + m = j → m < k →
    (l[j].f0 ∈ ((l.take j).drop x).map (·.f0) → glacisref05_Tail.l1 k l o (j : Int) l[j].f0 v (x : Int) = some (⟨#[]⟩, 50)) ∧
    (l[j].f0 ∉ ((l.take j).drop x).map (·.f0) → ∃ k', k ≤ k' + m + 1 ∧ glacisref05_Tail.l1 k l o (j : Int) l[j].f0 v (x : Int) = glacisref05_Tail.l0 k' l (partT l[j] o v) ((j + 1 : Nat) : Int))
  | 0, x, k, hm, hkk => by
    obtain ⟨k, rfl⟩ : ∃ k', k = k' + 1 := ⟨k - 1, by omega⟩
    have e : (l.take j).drop x = [] := List.drop_eq_nil_of_le (by rw [List.length_take]; omega)
    rw [e]
    refine ⟨fun h => (by cases h), fun _ => ⟨k, by omega, ?_⟩⟩
    rw [glacisref05_Tail.l1, if_neg (by omega)]
    exact tail_cont k j l o v hl hj ho hk hv hf
  | m + 1, x, k, hm, hkk => by
    obtain ⟨k, rfl⟩ : ∃ k', k = k' + 1 := ⟨k - 1, by omega⟩
    have hx : x < (l.take j).length := by rw [List.length_take]; omega
    have hxl : x < l.length := by omega
    have e : (l.take j).drop x = l[x] :: (l.take j).drop (x + 1) := by rw [List.drop_eq_getElem_cons hx, List.getElem_take]
    have ih := tail_l1 l o v j hl hj ho hk hv hf m (x + 1) k (by omega) (by omega)
    rw [glacisref05_Tail.l1, if_pos (by omega), if_pos (by omega), if_pos (by omega), rd_at5 l x hxl, wrap_next x (by omega), e, List.map_cons]
    by_cases h : l[x].f0 = l[j].f0
    · rw [if_pos (toList_inj.2 h)]
      refine ⟨fun _ => rfl, fun hn => absurd (by rw [h]; exact List.mem_cons_self ..) hn⟩
    rw [if_neg (fun k => h (toList_inj.1 k))]
    refine ⟨fun hm' => ih.1 ((List.mem_cons.1 hm').resolve_left (fun k => h k.symm)), fun hn => ?_⟩
    obtain ⟨k', h1, h2⟩ := ih.2 (fun k => hn (List.mem_cons_of_mem _ k))
    exact ⟨k', by omega, h2⟩
theorem tail_l0 (l : List S60) (hl : l.length ≤ 100) (hs : ∀ q ∈ l, Short q) : ∀ (m j k : Nat) (o : ByteArray) (seen : List ByteArray), j + m = l.length → 200000 + 200 * m < k → (∀ x, x ∈ seen ↔ x ∈ (l.take j).map (·.f0)) → o.size + m * 4000 ≤ 500000 →
    ∃ r, tailF (l.drop j) seen o = some r ∧ glacisref05_Tail.l0 k l o (j : Int) = some r
  | 0, j, k, o, seen, hm, hk, hse, ho => by
    obtain ⟨k, rfl⟩ : ∃ k', k = k' + 1 := ⟨k - 1, by omega⟩
    have e : l.drop j = [] := List.drop_eq_nil_of_le (by omega)
    rw [e, tailF, glacisref05_Tail.l0, if_neg (by omega)]
    exact ⟨_, rfl, rfl⟩
  | m + 1, j, k, o, seen, hm, hk, hse, ho => by
    obtain ⟨k, rfl⟩ : ∃ k', k = k' + 2 := ⟨k - 2, by omega⟩
    have hj : j < l.length := by omega
    have hp := hs _ (List.getElem_mem hj)
    have hp1 := hp.1
    obtain ⟨v, b, v', e1, e2, e3, e4⟩ := Value_f l[j].f0 l[j].f1 l[j].f2 l[j].f3 hp.2 (k + 1) (by omega)
    have hp2 := hp.2
    rw [List.drop_eq_getElem_cons hj, tailF, e1]
    simp only [Option.bind_some]
    rw [if_neg (by simp only [Decidable.not_not]; refine ⟨by omega, by omega, by omega⟩)]
    have p3 : (0 : Int) ≤ (j : Int) := by omega
    have p4 : (j : Int) < (l.length : Int) := by omega
    rw [glacisref05_Tail.l0, if_pos p4, if_pos p3, rd_at5 l j hj, key_f _ (by omega) _ (by omega)]
    simp only [Option.bind_some]
    rw [e2]
    simp only [Option.bind_some]
    have no : ∀ x y : ByteArray, glacisref05_Tail.j1 (k + 1) l o (j : Int) x y true = some (⟨#[]⟩, 50) := fun x y => by rw [glacisref05_Tail.j1, if_pos rfl]
    by_cases hK : KT (L l[j].f0)
    · have hr := key_read (L l[j].f0) [] hK (fun c r' h => by cases h) l[j].f0 (by simp)
      rw [B_L] at hr
      rw [hr, if_pos (show (refK (some (l[j].f0, B []))).2.2 = 0 from rfl), if_pos (show (refK (some (l[j].f0, B []))).2.1.toList = ([] : List UInt8) by rw [L_toList]; exact L_B [])]
      cases b with
      | false =>
        have hb : badP l[j] false seen = true := by
          cases h : badP l[j] false seen with
          | true => rfl
          | false => exact absurd (bad_not h).2.1 (by decide)
        rw [hb, if_pos rfl]
        exact ⟨_, rfl, no _ _⟩
      | true =>
        have hvv := e3 rfl
        subst hvv
        have hf : l[j].f1 = 6 → l[j].f2 = 0 ∨ l[j].f2 = 1 := fun h6 => by
          have := value_back _ _ _ _ _ e1
          rw [h6] at this
          exact flag_any this
        have hl1 := tail_l1 l o v' j hl hj (by omega) hp1 (by omega) hf j 0 k (by omega) (by omega)
        rw [List.drop_zero] at hl1
        show ∃ r, _ ∧ glacisref05_Tail.j1 (k + 1) l o (j : Int) l[j].f0 v' (!true) = some r
        rw [glacisref05_Tail.j1, if_neg (show ¬ ((!true) = true) by decide)]
        by_cases hd : l[j].f0 ∈ (l.take j).map (·.f0)
        · have hb : badP l[j] true seen = true := by
            cases h : badP l[j] true seen with
            | true => rfl
            | false => exact absurd ((hse _).2 hd) (bad_not h).2.2
          rw [hb, if_pos rfl]
          exact ⟨_, rfl, hl1.1 hd⟩
        rw [bad_of hK rfl (fun h => hd ((hse _).1 h)), if_neg (by decide)]
        obtain ⟨k', h1, h2⟩ := hl1.2 hd
        have hsz := part_size l[j] o v'
        obtain ⟨r, q1, q2⟩ := tail_l0 l hl hs m (j + 1) k' (partT l[j] o v') (l[j].f0 :: seen) (by omega) (by omega) (fun x => by
          rw [take_snoc l j hj, List.map_append, List.mem_cons, List.mem_append, hse x]
          simp only [List.map_cons, List.map_nil, List.mem_singleton]
          exact Or.comm) (by omega)
        exact ⟨r, q1, by rw [← q2]; exact h2⟩
    have hb : badP l[j] b seen = true := by
      cases h : badP l[j] b seen with
      | true => rfl
      | false => exact absurd (bad_not h).1 hK
    rw [hb, if_pos rfl]
    refine ⟨_, rfl, ?_⟩
    by_cases c1 : (refK (rdKey l[j].f0)).2.2 = 0
    · rw [if_pos c1]
      by_cases c2 : (refK (rdKey l[j].f0)).2.1.toList = ([] : List UInt8)
      · exfalso
        apply hK
        have a1 : (keyF l[j].f0) = refK (rdKey l[j].f0) := by unfold keyF refK; cases rdKey l[j].f0 <;> rfl
        exact key_all (by rw [a1]; exact c1) (by rw [a1]; exact c2)
      rw [if_neg c2]; exact no _ _
    rw [if_neg c1]; exact no _ _
theorem Tail_f (l : List S60) (hl : l.length ≤ 100) (hs : ∀ q ∈ l, Short q) (k : Nat) (hk : 300000 ≤ k) : ∃ r, sfitem_Tail.f l = some r ∧ glacisref05_Tail.f k l = some r := by
  unfold sfitem_Tail.f glacisref05_Tail.f
  rw [if_pos (by omega)]
  have := tail_l0 l hl hs l.length 0 k ⟨#[]⟩ [] (by omega) (by omega) (fun x => by simp) (by show 0 + _ ≤ _; omega)
  exact this
theorem Text_f (n i : Int) (t : ByteArray) (l : List S60) (hl : l.length ≤ 100) (ht : t.size ≤ 1000) (hs : ∀ q ∈ l, Short q) (k : Nat) (hk : 300000 ≤ k) : ∃ r, sfitem_Text.f n i t l = some r ∧ glacisref05_Text.f k n i t l = some r := by
  obtain ⟨v, b, v', e1, e2, e3, e4⟩ := Value_f ⟨#[]⟩ n i t ht k (by omega)
  have z0 : (⟨#[]⟩ : ByteArray).size = 0 := rfl
  obtain ⟨o, e, ho, hoz⟩ := tail_any l [] ⟨#[]⟩ hs (by omega)
  obtain ⟨r, q1, q2⟩ := Tail_f l hl hs k hk
  have q3 : sfitem_Tail.f l = some (o, e) := by unfold sfitem_Tail.f; rw [if_pos (by omega), ho]
  obtain rfl : r = (o, e) := Option.some.inj (q1.symm.trans q3)
  unfold sfitem_Text.f glacisref05_Text.f
  rw [e1, e2, q1, q2]
  simp only [Option.bind_some]
  cases b with
  | false => exact ⟨_, rfl, rfl⟩
  | true =>
    rw [e3 rfl]
    have f := fit2 v.size o.size (by omega) (by omega)
    refine ⟨if e = 0 then (v ++ o, 0) else (⟨#[]⟩, 50), ?_, ?_⟩ <;>
    · by_cases he : e = 0
      · simp only [he, if_true, f]
      simp only [he, if_true, if_false]
end Go.Proofs.YtjdbiicjfpgjkaaGreatDoor.Pl
