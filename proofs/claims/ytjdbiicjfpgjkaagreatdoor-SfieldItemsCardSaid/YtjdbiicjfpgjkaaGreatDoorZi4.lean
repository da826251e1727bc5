/- The law SfieldItems: its row and card. Its conditions: the row's own. -/
import Derived.Test.YtjdbiicjfpgjkaaGreatDoorZi3
import Derived.Carry
import Derived.Deep.Slices
import Derived.Lib.LaidTab
import Derived.Lib.SmallJoins
import Derived.Stop.LaidErr
namespace Go.Proofs.YtjdbiicjfpgjkaaGreatDoor.Q
open Go.RowKit Go.Proofs.YtjdbiicjfpgjkaaGreatDoorW.PrintWords Go.Proofs.YtjdbiicjfpgjkaaGreatDoorW.PrintLast Go.Proofs.YtjdbiicjfpgjkaaGreatDoorW.PrintMore
set_option linter.unusedVariables false
set_option linter.unusedSimpArgs false
/-- The items' texts, with a blank ahead of each. -/
def itemsT : List S31 → Bool → ByteArray → Option (Bool × ByteArray)
  | [], may, t => some (may, t)
  | x :: xs, may, t => (sfitem_Text.f x.f0 x.f1 x.f2 x.f3).bind fun u => if t.size + 1 + u.1.size ≤ 1000000000 then itemsT xs (may && decide (u.2 = 0)) ((t ++ (⟨#[32]⟩ : ByteArray)) ++ u.1) else none
def oneI (l0 : List S31) (l1 : List S60) : S34 := ⟨⟨#[]⟩, true, ⟨0, 0, ⟨#[]⟩, []⟩, l0, l1⟩
def glacislaw06_SfieldItems.f (k : Nat) (l0 : List S31) (l1 : List S60) : Option Bool :=
  if glacislaw06_awake.f k ≠ some true then none
  else if fewL [oneI l0 l1] = false ∨ l0.length > 20 then some true
  else (itemsT l0 true ⟨#[40]⟩).bind fun z => (sfitem_Tail.f l1).bind fun y => (sfield_List.f k ((z.2 ++ (⟨#[32, 32, 41]⟩ : ByteArray)) ++ y.1)).bind fun g => (sfield_ListText.f k [oneI l0 l1]).bind fun q =>
    if ¬ (z.2.size ≤ 1000000000 ∧ y.1.size ≤ 1000000000) then none
    else if z.1 = false ∨ y.2 ≠ 0 then (if q.2 = 50 then some true else none)
    else if z.2.size + y.1.size > 3900 then some true
    else if glacisref06_Same.f k g.1 [oneI l0 l1] = some true ∧ g.2 = 0 ∧ q.2 = 0 then some true else none
set_option maxHeartbeats 8000000 in
set_option maxRecDepth 100000 in
theorem glacislaw06_SfieldItems.calls (k : Nat) (A0 : Option Addr) (c0 : Nat) (l0 : List S31) (A1 : Option Addr) (c1 : Nat) (l1 : List S60) (r : Bool) (w : World) (hT_ : Aside0 (TabW w)) (hr0 : Kd.C k31 w A0 l0.length l0) (hc0 : l0.length ≤ c0) (hr1 : Kd.C k60 w A1 l1.length l1) (hc1 : l1.length ≤ c1) (h : glacislaw06_SfieldItems.f k l0 l1 = some r) :
    Calls Tryz.prog 8 #[.slice A0 l0.length c0, .slice A1 l1.length c1] w fun e w' => e = .returned (.bool r) ∧ Below w.heap.size w w' := by
  have huM := Tryz.underlying34
  have huI := Tryz.underlying31
  have huP := Tryz.underlying60
  unfold glacislaw06_SfieldItems.f at h
  have hup : glacislaw06_awake.f k = some true := Classical.byContradiction fun hn => by rw [if_pos hn] at h; cases h
  rw [if_neg (fun hn => hn hup)] at h
  have CA := Aside0.mk (glacislaw06_awake.calls k true w hT_ hup)
  have R0 := Aside0.mk hr0
  have R1 := Aside0.mk hr1
  have D0 := Aside0.mk hc0
  have D1 := Aside0.mk hc1
  have HH := Aside0.mk h
  clear hup hr0 hr1 hc0 hc1 h
  obtain ⟨ms, hms⟩ : ∃ ms, ms = [oneI l0 l1] := ⟨_, rfl⟩
  have HMS := Aside0.mk hms
  rw [← hms] at HH
  have HML : Aside0 (ms.length = 1) := ⟨by rw [hms]; rfl⟩
  clear hms
  go_enter Tryz.func8, Tryz.ntmps8
  go_upto_region 2 with (first | (go_at_call 9; refine CA.out.mono ?_; rintro e w1 ⟨rfl, hb1⟩; have HB1 := Aside0.mk hb1; clear hb1))
  have HK := Aside0.mk (k34_mk w1 (oneI l0 l1) (Nat.le_refl 0) (nilJ k60 w1) D0.out (Kd.C_below R0.out HB1.out) D1.out (Kd.C_below R1.out HB1.out))
  have HC2 : Aside0 (Kd.C k34 (w1.alloc (.cells #[.string ⟨#[]⟩, .bool true, .int .i64 0, .int .i64 0, .string ⟨#[]⟩, .slice none 0 0, .slice A0 l0.length c0, .slice A1 l1.length c1] 34)) (some ⟨w1.heap.size, 0, none⟩) ms.length ms) := ⟨by rw [HMS.out]; exact oneJ_row HK.out (blk_new w1 _) (below_alloc (Below.refl _ _) _)⟩
  have HB2 := Aside0.mk (below_alloc HB1.out (.cells #[.string ⟨#[]⟩, .bool true, .int .i64 0, .int .i64 0, .string ⟨#[]⟩, .slice none 0 0, .slice A0 l0.length c0, .slice A1 l1.length c1] 34))
  go_upto_region 3 with (fail)
  generalize w1.alloc (.cells #[.string ⟨#[]⟩, .bool true, .int .i64 0, .int .i64 0, .string ⟨#[]⟩, .slice none 0 0, .slice A0 l0.length c0, .slice A1 l1.length c1] 34) = w2 at *
  generalize w1.heap.size = gm at *
  clear HK HB1 CA
  have CF : Aside0 (Calls Tryz.prog 16 #[.slice (some ⟨gm, 0, none⟩) 1 1] w2 fun e w' => e = .returned (.bool (fewL ms)) ∧ Below w2.heap.size w2 w') := ⟨by
    have := glacislaw06_few.calls k (some ⟨gm, 0, none⟩) 1 ms (fewL ms) w2 HC2.out (by rw [HML.out]; exact Nat.le_refl 1) rfl
    rwa [HML.out] at this⟩
  obtain ⟨bf, hbf⟩ : ∃ bf, fewL ms = bf := ⟨_, rfl⟩
  rw [hbf] at CF HH
  clear hbf
  go_upto_region 4 with (first | (go_at_call 16; refine CF.out.mono ?_; rintro e w3 ⟨rfl, hb⟩; have HB3 := Aside0.mk (below_then HB2.out HB2.out.size hb); have HC3 := Aside0.mk (Kd.C_below HC2.out hb); clear hb))
  clear CF HC2 HB2
  cases bf with
  | false =>
    have hH := HH.out
    rw [if_pos (.inl rfl)] at hH
    obtain rfl := Option.some.inj hH
    clear hH HH
    go_wp2
    go_ret
    exact ⟨rfl, HB3.out⟩
  | true =>
    by_cases h20 : l0.length > 20
    · have hH := HH.out
      rw [if_pos (.inr h20)] at hH
      obtain rfl := Option.some.inj hH
      have d1 : decide ((20 : Int) < (l0.length : Int)) = true := decide_eq_true (by omega)
      clear hH HH
      go_wp2
      go_ret
      exact ⟨rfl, HB3.out⟩
    · have hH := HH.out
      rw [if_neg (fun hn => hn.elim (fun k => by cases k) h20)] at hH
      have d1 : decide ((20 : Int) < (l0.length : Int)) = false := decide_eq_false (by omega)
      obtain ⟨⟨z1, z2⟩, hz, hH⟩ := Option.bind_eq_some_iff.1 hH
      obtain ⟨⟨y1, y2⟩, hy, hH⟩ := Option.bind_eq_some_iff.1 hH
      obtain ⟨⟨g1, g2⟩, hg, hH⟩ := Option.bind_eq_some_iff.1 hH
      obtain ⟨⟨q1, q2⟩, hq, hH⟩ := Option.bind_eq_some_iff.1 hH
      dsimp only at hg hH
      have hsz : z2.size ≤ 1000000000 ∧ y1.size ≤ 1000000000 := Classical.byContradiction fun hn => by rw [if_pos hn] at hH; cases hH
      rw [if_neg (fun hn => hn hsz)] at hH
      have HF := Aside0.mk hH
      have HZ := Aside0.mk hz
      have HY := Aside0.mk hy
      have HG := Aside0.mk hg
      have HQ := Aside0.mk hq
      have HSZ := Aside0.mk hsz
      have H20 := Aside0.mk h20
      clear hH hz hy hg hq hsz h20 HH
      go_wp2
      go_loopw [8, 9, 10, 11, 12] (fun v8 v9 v10 v11 v12 wr => ∃ (n : Nat) (may : Bool) (t : ByteArray), n ≤ l0.length ∧ v10 = .int .i64 n ∧ v8 = .string t ∧ v9 = .bool may ∧ Aside0 (itemsT (l0.drop n) may t = some (z1, z2)) ∧ Aside0 (Below w3.heap.size w3 wr)) (fun _ _ v10 _ _ _ => l0.length - (intOf v10).toNat)
      case atStart => exact ⟨0, true, ⟨#[40]⟩, Nat.zero_le _, rfl, rfl, rfl, ⟨by rw [List.drop_zero]; exact HZ.out⟩, ⟨Below.refl _ _⟩⟩
      case round =>
        obtain ⟨n, may, t, hn, rfl, rfl, rfl, HI, HBr⟩ := hrel
        have h20 := H20.out
        by_cases hlt : n < l0.length
        · have hltd : decide ((n : Int) < (l0.length : Int)) = true := decide_eq_true (by omega)
          have hI := HI.out
          rw [List.drop_eq_getElem_cons hlt, itemsT] at hI
          obtain ⟨⟨u1, u2⟩, hu, hI⟩ := Option.bind_eq_some_iff.1 hI
          dsimp only at hI
          have hs : t.size + 1 + u1.size ≤ 1000000000 := Classical.byContradiction fun hn => by rw [if_neg hn] at hI; cases hI
          rw [if_pos hs] at hI
          obtain ⟨ad, A3, c3, hA, i0, i1, i2, i3, m3, g3⟩ := at_T31 (Kd.C_below R0.out (below_then HB3.out HB3.out.size HBr.out)) (n : Int) (by omega) (by omega)
          subst hA
          simp only [Int.toNat_natCast] at i0 i1 i2 i3
          have q1 : (0 ≤ (n : Int)) = True := eq_true (by omega)
          have q2 : ((n : Int) < (l0.length : Int)) = True := eq_true (by omega)
          have hrd : rd_T31 l0 (n : Int) = l0[n] := by simp [rd_T31, List.getD_eq_getElem?_getD, hlt]
          rw [hrd] at i0 i1 i2 i3 m3 g3
          have CT := Aside0.mk (sfitem_Text.calls l0[n].f0 l0[n].f1 l0[n].f2 A3 c3 l0[n].f3 u1 u2 wr (tab_ hT_ (below_then HB3.out HB3.out.size HBr.out)) g3 m3 hu)
          have HI2 := Aside0.mk hI
          generalize l0[n] = x at *
          have s1 : (t.size + 1 ≤ 9223372036854775807) = True := eq_true (by omega)
          have s1b : (9223372036854775807 < t.size + 1) = False := eq_false (by omega)
          have s2 : ((t ++ (⟨#[32]⟩ : ByteArray)).size + u1.size ≤ 9223372036854775807) = True := eq_true (by rw [ByteArray.size_append, show (⟨#[32]⟩ : ByteArray).size = 1 from rfl]; omega)
          have s2b : (9223372036854775807 < (t ++ (⟨#[32]⟩ : ByteArray)).size + u1.size) = False := eq_false (by rw [ByteArray.size_append, show (⟨#[32]⟩ : ByteArray).size = 1 from rfl]; omega)
          have s2c : (9223372036854775807 < t.size + 1 + u1.size) = False := eq_false (by omega)
          clear hI hu g3 m3 hs hrd
          go_upto_region 12 with (first | (go_at_call 21; refine CT.out.mono ?_; rintro e w5 ⟨rfl, hb⟩; have HB5 := Aside0.mk (below_then HBr.out HBr.out.size hb); clear hb))
          clear CT i0 i1 i2 i3
          by_cases he : u2 = 0
          · have b0 : (u2 == 0) = true := by simpa using he
            rw [decide_eq_true he, Bool.and_true] at HI2
            clear he
            cases may with
            | true =>
              go_wp2
              exact ⟨⟨n + 1, true, _, by omega, by go_num, rfl, rfl, HI2, HB5⟩, by simp [intOf]; omega⟩
            | false =>
              go_wp2
              exact ⟨⟨n + 1, false, _, by omega, by go_num, rfl, rfl, HI2, HB5⟩, by simp [intOf]; omega⟩
          · have b0 : (u2 == 0) = false := by simpa using he
            rw [decide_eq_false he, Bool.and_false] at HI2
            clear he
            cases may with
            | true =>
              go_wp2
              exact ⟨⟨n + 1, false, _, by omega, by go_num, rfl, rfl, HI2, HB5⟩, by simp [intOf]; omega⟩
            | false =>
              go_wp2
              exact ⟨⟨n + 1, false, _, by omega, by go_num, rfl, rfl, HI2, HB5⟩, by simp [intOf]; omega⟩
        · obtain rfl : n = l0.length := by omega
          have hltd : decide ((l0.length : Int) < (l0.length : Int)) = false := decide_eq_false (by omega)
          have hI := HI.out
          rw [List.drop_length, itemsT] at hI
          obtain ⟨rfl, rfl⟩ := Prod.mk.inj (Option.some.inj hI)
          clear hI HI HZ
          have hsz := HSZ.out
          have s1 : (t.size + 3 ≤ 9223372036854775807) = True := eq_true (by omega)
          have s1b : (9223372036854775807 < t.size + 3) = False := eq_false (by omega)
          have s2 : ((t ++ (⟨#[32, 32, 41]⟩ : ByteArray)).size + y1.size ≤ 9223372036854775807) = True := eq_true (by rw [ByteArray.size_append, show (⟨#[32, 32, 41]⟩ : ByteArray).size = 3 from rfl]; omega)
          have s2b : (9223372036854775807 < (t ++ (⟨#[32, 32, 41]⟩ : ByteArray)).size + y1.size) = False := eq_false (by rw [ByteArray.size_append, show (⟨#[32, 32, 41]⟩ : ByteArray).size = 3 from rfl]; omega)
          have s2c : (9223372036854775807 < t.size + 3 + y1.size) = False := eq_false (by omega)
          have w64 : wrap64 ((t.size : Int) + (y1.size : Int)) = (t.size : Int) + (y1.size : Int) := by unfold wrap64; omega
          have CT := Aside0.mk (sfitem_Tail.calls A1 c1 l1 y1 y2 wr (tab_ hT_ (below_then HB3.out HB3.out.size HBr.out)) (Kd.C_below R1.out (below_then HB3.out HB3.out.size HBr.out)) D1.out HY.out)
          go_upto_region 15 with (first | (go_at_call 22; refine CT.out.mono ?_; rintro e w6 ⟨rfl, hb⟩; have HB6 := Aside0.mk (below_then HBr.out HBr.out.size hb); clear hb))
          have CL := Aside0.mk (sfield_List.calls k ((t ++ (⟨#[32, 32, 41]⟩ : ByteArray)) ++ y1) g1 g2 w6 HG.out)
          clear CT
          go_upto_region 16 with (first | (go_at_call 10; refine CL.out.mono ?_; rintro e w7 ⟨v15, rfl, ho, hb⟩; obtain ⟨A15, c15, rfl, hl15, hC15⟩ := Kd.R_reads ho; have HG7 := Aside0.mk hC15; have HC15 := Aside0.mk hl15; have HB7 := Aside0.mk (below_then HB6.out HB6.out.size hb); clear ho hb hC15 hl15))
          have CX : Aside0 (Calls Tryz.prog 17 #[.slice (some ⟨gm, 0, none⟩) 1 1] w7 fun e w' => e = .returned (.tuple #[.string q1, .int .i64 q2]) ∧ Below w7.heap.size w7 w') := ⟨by
            have := sfield_ListText.calls k (some ⟨gm, 0, none⟩) 1 ms q1 q2 w7 (tab_ hT_ (below_then HB3.out HB3.out.size HB7.out)) (Kd.C_below HC3.out HB7.out) (by rw [HML.out]; exact Nat.le_refl 1) HQ.out
            rwa [HML.out] at this⟩
          clear CL
          go_upto_region 17 with (first | (go_at_call 17; refine CX.out.mono ?_; rintro e w8 ⟨rfl, hb⟩; have HB8 := Aside0.mk (below_then HB7.out HB7.out.size hb); have HG8 := Aside0.mk (Kd.C_below HG7.out hb); clear hb))
          clear CX
          have hF := HF.out
          by_cases hbad : may = false ∨ y2 ≠ 0
          · rw [if_pos hbad] at hF
            have hq2 : q2 = 50 := Classical.byContradiction fun hn => by rw [if_neg hn] at hF; cases hF
            rw [if_pos hq2] at hF
            obtain rfl := Option.some.inj hF
            subst hq2
            clear hF HF
            cases may with
            | false =>
              clear hbad
              go_wp2
              go_ret
              exact ⟨rfl, below_then HB3.out HB3.out.size HB8.out⟩
            | true =>
              have hy2 : y2 ≠ 0 := by
                rcases hbad with h | h
                · cases h
                · exact h
              have b2 : (y2 != 0) = true := by simpa using hy2
              have b2' : (y2 == 0) = false := by simpa using hy2
              clear hbad hy2
              go_wp2
              go_ret
              exact ⟨rfl, below_then HB3.out HB3.out.size HB8.out⟩
          · rw [if_neg hbad] at hF
            obtain rfl : may = true := by
              cases may with
              | true => rfl
              | false => exact absurd (.inl rfl) hbad
            obtain rfl : y2 = 0 := Classical.byContradiction fun hn => hbad (.inr hn)
            clear hbad
            by_cases h39 : t.size + y1.size > 3900
            · rw [if_pos h39] at hF
              obtain rfl := Option.some.inj hF
              have d2 : decide ((3900 : Int) < (t.size : Int) + (y1.size : Int)) = true := decide_eq_true (by omega)
              have d3 : decide ((3900 : Int) < wrap64 ((t.size : Int) + (y1.size : Int))) = true := by rw [w64]; exact d2
              clear hF HF
              go_wp2
              go_ret
              exact ⟨rfl, below_then HB3.out HB3.out.size HB8.out⟩
            · rw [if_neg h39] at hF
              have hall : glacisref06_Same.f k g1 ms = some true ∧ g2 = 0 ∧ q2 = 0 := Classical.byContradiction fun hn => by rw [if_neg hn] at hF; cases hF
              rw [if_pos hall] at hF
              obtain rfl := Option.some.inj hF
              obtain ⟨hs, rfl, rfl⟩ := hall
              have CS : Aside0 (Calls Tryz.prog 14 #[.slice A15 g1.length c15, .slice (some ⟨gm, 0, none⟩) 1 1] w8 fun e w' => e = .returned (.bool true) ∧ Below w8.heap.size w8 w') := ⟨by
                have := glacisref06_Same.calls k A15 c15 g1 (some ⟨gm, 0, none⟩) 1 ms true w8 HG8.out HC15.out (Kd.C_below HC3.out HB8.out) (by rw [HML.out]; exact Nat.le_refl 1) hs
                rwa [HML.out] at this⟩
              have d2 : decide ((3900 : Int) < (t.size : Int) + (y1.size : Int)) = false := decide_eq_false (by omega)
              have d3 : decide ((3900 : Int) < wrap64 ((t.size : Int) + (y1.size : Int))) = false := by rw [w64]; exact d2
              clear hF HF hs
              go_wp2_with (first | (go_at_call 14; refine CS.out.mono ?_; rintro e w9 ⟨rfl, hb⟩; have HB9 := Aside0.mk (below_then HB8.out HB8.out.size hb); clear hb))
              go_ret
              exact ⟨rfl, below_then HB3.out HB3.out.size HB9.out⟩
end Go.Proofs.YtjdbiicjfpgjkaaGreatDoor.Q
/- Chapter 5: the calls whose answers the document fixes. -/
namespace Go.Proofs.YtjdbiicjfpgjkaaGreatDoor.Pl
open Go.RowKit Go.Proofs.YtjdbiicjfpgjkaaGreatDoor.Q Go.Proofs.YtjdbiicjfpgjkaaGreatDoor.Sf Go.Proofs.YtjdbiicjfpgjkaaGreatDoorW.PrintWords Go.Proofs.YtjdbiicjfpgjkaaGreatDoorW.PrintLast
set_option linter.unusedVariables false
set_option linter.unusedSimpArgs false
theorem itoa_1 : itoaBA 1 = ⟨#[49]⟩ := by
  have h : Lib.itoa 1 = [49] := by
    unfold Lib.itoa
    rw [if_neg (by decide), Lib.decDigits]
    decide
  unfold itoaBA; rw [h]
theorem itoa_0 : itoaBA 0 = ⟨#[48]⟩ := by
  have h : Lib.itoa 0 = [48] := by
    unfold Lib.itoa
    rw [if_neg (by decide), Lib.decDigits]
    decide
  unfold itoaBA; rw [h]
end Go.Proofs.YtjdbiicjfpgjkaaGreatDoor.Pl
/- Chapter 5: the reader over lists of bytes: what text tells what value, and how such a text is read. -/
namespace Go.Proofs.YtjdbiicjfpgjkaaGreatDoor.Pl
open Go.RowKit Go.Proofs.YtjdbiicjfpgjkaaGreatDoor.Q Go.Proofs.YtjdbiicjfpgjkaaGreatDoor.Sf Go.Proofs.YtjdbiicjfpgjkaaGreatDoorW.PrintWords Go.Proofs.YtjdbiicjfpgjkaaGreatDoorW.PrintLast
set_option linter.unusedVariables false
set_option linter.unusedSimpArgs false
def L (s : ByteArray) : List UInt8 := s.data.toList
def B (l : List UInt8) : ByteArray := ⟨l.toArray⟩
theorem L_B (l : List UInt8) : L (B l) = l := by simp [L, B]
theorem B_L (s : ByteArray) : B (L s) = s := by apply ByteArray.ext; simp [L, B]
theorem L_inj {a b : ByteArray} (h : L a = L b) : a = b := by rw [← B_L a, h, B_L]
theorem L_app (a b : ByteArray) : L (a ++ b) = L a ++ L b := by unfold L; simp
theorem size_L (s : ByteArray) : s.size = (L s).length := Lib.size_eq s
theorem L_tl (s : ByteArray) : L (tl s) = (L s).tail := by
  unfold L tl
  rw [Lib.extract_data, Lib.size_eq]
  rw [List.take_of_length_le (by simp), List.drop_one]
theorem bt0 {s : ByteArray} {c : UInt8} {r : List UInt8} (h : L s = c :: r) : bt s 0 = (c.toNat : Int) := by
  have hl : 0 < s.data.toList.length := by show 0 < (L s).length; rw [h]; simp
  have := bt_list s 0 hl
  have e : s.data.toList[0] = c := by
    have h2 : s.data.toList = c :: r := h
    simp [h2]
  rw [e] at this
  exact this
theorem size_pos {s : ByteArray} {c : UInt8} {r : List UInt8} (h : L s = c :: r) : 0 < s.size := by rw [size_L, h]; simp
theorem size_nil {s : ByteArray} (h : L s = []) : ¬ 0 < s.size := by rw [size_L, h]; simp
theorem atF_cons {s : ByteArray} {c : UInt8} {r : List UInt8} (h : L s = c :: r) (n : Int) : atF s n = decide ((c.toNat : Int) = n) := by
  unfold atF; rw [bt0 h]; simp [size_pos h]
theorem atF_nil {s : ByteArray} (h : L s = []) (n : Int) : atF s n = false := by
  unfold atF; simp [size_nil h]
theorem atF_ex {s : ByteArray} {n : Int} (h : atF s n = true) : ∃ c r, L s = c :: r ∧ (c.toNat : Int) = n := by
  cases e : L s with
  | nil => rw [atF_nil e] at h; cases h
  | cons c r => rw [atF_cons e] at h; exact ⟨c, r, rfl, of_decide_eq_true h⟩
theorem L_tak (p : Int → Bool) (s : ByteArray) : L (takB p s) = (L s).takeWhile (fun c => p c.toNat) := tak_data p s
theorem L_drp (p : Int → Bool) (s : ByteArray) : L (drpB p s) = (L s).dropWhile (fun c => p c.toNat) := by
  have h1 : L (drpB p s) = (L s).drop (spanB p s) := by
    unfold L drpB
    rw [Lib.extract_data, Lib.size_eq]
    rw [List.take_of_length_le (by simp)]
  rw [h1]
  have h2 : spanB p s = ((L s).takeWhile (fun c => p c.toNat)).length := rfl
  rw [h2]
  generalize (fun c : UInt8 => p c.toNat) = q
  induction L s with
  | nil => rfl
  | cons x l ih => rw [List.takeWhile_cons, List.dropWhile_cons]; split <;> simp [*]
theorem takeW_app {α : Type} (q : α → Bool) : ∀ (w r : List α), (∀ c ∈ w, q c = true) → (∀ c r', r = c :: r' → q c = false) → (w ++ r).takeWhile q = w ∧ (w ++ r).dropWhile q = r
  | [], r, _, h2 => by
    cases r with
    | nil => exact ⟨rfl, rfl⟩
    | cons c r' => rw [List.nil_append, List.takeWhile_cons, List.dropWhile_cons, h2 c r' rfl]; exact ⟨rfl, rfl⟩
  | x :: w, r, h1, h2 => by
    have ih := takeW_app q w r (fun c hc => h1 c (List.mem_cons_of_mem _ hc)) h2
    rw [List.cons_append, List.takeWhile_cons, List.dropWhile_cons, h1 x (List.mem_cons_self ..)]
    simp only [if_true]
    rw [ih.1, ih.2]; exact ⟨rfl, rfl⟩
theorem span_split {α : Type} (q : α → Bool) (l : List α) : l.takeWhile q ++ l.dropWhile q = l := List.takeWhile_append_dropWhile
theorem allU (P : UInt8 → Bool) (h : (List.range 256).all (fun n => P (UInt8.ofNat n)) = true) (c : UInt8) : P c = true := by
  have hc : c.toNat < 256 := c.toNat_lt
  have := List.all_eq_true.1 h c.toNat (List.mem_range.2 hc)
  simpa using this
/-- A row of digits' number. -/
def numL (l : List UInt8) : Nat := l.foldl (fun a c => a * 10 + (c.toNat - 48)) 0
theorem numV_L (s : ByteArray) : numV s = numL (L s) := rfl
def zerL (n : Nat) : List UInt8 := ([48, 48, 48] : List UInt8).drop n
theorem zer_L (n : Nat) : L (zer n) = zerL n := by
  unfold L zer
  rw [Lib.extract_data]
  show List.take (3 - n) (List.drop n [48, 48, 48]) = zerL n
  rw [List.take_of_length_le (by simp)]; rfl
def dgU (c : UInt8) : Bool := dgP c.toNat
def toU (c : UInt8) : Bool := tokP c.toNat
def baU (c : UInt8) : Bool := baP c.toNat
def keU (c : UInt8) : Bool := keP c.toNat
/-- What bytes between quotes tell what text. -/
inductive QT : List UInt8 → List UInt8 → Prop
  | stop : QT [34] []
  | plain (c : UInt8) (q t : List UInt8) (h1 : 32 ≤ c.toNat) (h2 : c.toNat ≤ 126) (h3 : c.toNat ≠ 34) (h4 : c.toNat ≠ 92) (h : QT q t) : QT (c :: q) (c :: t)
  | esc (c : UInt8) (q t : List UInt8) (h1 : c.toNat = 34 ∨ c.toNat = 92) (h : QT q t) : QT (92 :: c :: q) (c :: t)
def sgV (sg : List UInt8) : Int := if sg = [] then 1 else -1
/-- What text tells what value. -/
inductive VT : List UInt8 → Int → Int → List UInt8 → Prop
  | int (sg w : List UInt8) (h0 : sg = [] ∨ sg = [45]) (h1 : w ≠ []) (h2 : ∀ c ∈ w, dgU c = true) (h3 : w.length ≤ 15) : VT (sg ++ w) 1 (sgV sg * (numL w : Int)) []
  | dec (sg w p : List UInt8) (h0 : sg = [] ∨ sg = [45]) (h1 : w ≠ []) (h2 : ∀ c ∈ w, dgU c = true) (h3 : w.length ≤ 12) (h4 : p ≠ []) (h5 : ∀ c ∈ p, dgU c = true) (h6 : p.length ≤ 3) : VT (sg ++ (w ++ 46 :: p)) 2 (sgV sg * (numL (w ++ (p ++ zerL p.length)) : Int)) []
  | tok (c : UInt8) (w : List UInt8) (h0 : leP c.toNat = true ∨ (c.toNat : Int) = 42) (h1 : ∀ x ∈ c :: w, toU x = true) : VT (c :: w) 4 0 (c :: w)
  | quo (q t : List UInt8) (h : QT q t) : VT (34 :: q) 3 0 t
  | byt (w : List UInt8) (h : ∀ c ∈ w, baU c = true) : VT (58 :: (w ++ [58])) 5 0 w
  | one : VT [63, 49] 6 1 []
  | zero : VT [63, 48] 6 0 []
/-- What text tells what key. -/
def KT (k : List UInt8) : Prop := ∃ c w, k = c :: w ∧ (smP c.toNat = true ∨ (c.toNat : Int) = 42) ∧ ∀ x ∈ k, keU x = true
/-- A rest behind which nothing is lost: at its head stands a semicolon, a comma, a blank, a tab or a bracket. -/
def Endc (c : UInt8) : Bool := c == 59 || c == 44 || c == 32 || c == 9 || c == 41
def Ends (r : List UInt8) : Prop := ∀ c r', r = c :: r' → Endc c = true
theorem Ends.nil : Ends [] := fun _ _ h => by cases h
theorem Ends.cons {c : UInt8} (h : Endc c = true) (r : List UInt8) : Ends (c :: r) := fun _ _ e => by cases e; exact h
theorem Ends.semi (r : List UInt8) : Ends (59 :: r) := Ends.cons (by decide) r
theorem Ends.not {q : UInt8 → Bool} {r : List UInt8} (h : Ends r) (hq : ∀ c, Endc c = true → q c = false) : ∀ c r', r = c :: r' → q c = false := fun c r' e => hq c (h c r' e)
theorem Ends.app {a b : List UInt8} (ha : Ends a) (hb : Ends b) : Ends (a ++ b) := by
  intro c r' e
  cases a with
  | nil => exact hb c r' e
  | cons x a => simp only [List.cons_append, List.cons.injEq] at e; obtain ⟨rfl, _⟩ := e; exact ha _ _ rfl
theorem end_all {P : UInt8 → Bool} (h : (List.range 256).all (fun n => !(Endc (UInt8.ofNat n)) || !(P (UInt8.ofNat n))) = true) (c : UInt8) (hc : Endc c = true) : P c = false := by
  have := allU (fun c => !(Endc c) || !(P c)) h c
  simpa [hc] using this
theorem digU_59 (c : UInt8) (h : Endc c = true) : dgU c = false := end_all (by decide +kernel) c h
theorem tokU_59 (c : UInt8) (h : Endc c = true) : toU c = false := end_all (by decide +kernel) c h
theorem keyU_59 (c : UInt8) (h : Endc c = true) : keU c = false := end_all (by decide +kernel) c h
theorem end_ne (c : UInt8) (h : Endc c = true) : c.toNat ≠ 46 ∧ (c.toNat : Int) ≠ 61 := by
  have h1 := end_all (P := fun c => decide (c.toNat = 46) || decide ((c.toNat : Int) = 61)) (by decide +kernel) c h
  simpa using h1
theorem dg_ne {c : UInt8} (h : dgU c = true) : 48 ≤ c.toNat ∧ c.toNat ≤ 57 := by
  unfold dgU dgP at h; have := of_decide_eq_true h; omega
theorem number_read (sg w r : List UInt8) (s : ByteArray) (h0 : sg = [] ∨ sg = [45]) (h1 : w ≠ []) (h2 : ∀ c ∈ w, dgU c = true) (hr : ∀ c r', r = c :: r' → dgU c = false) (e : L s = sg ++ (w ++ r)) :
    sgn s = sgV sg ∧ L (takB dgP (atR s 45)) = w ∧ L (drpB dgP (atR s 45)) = r := by
  have key : ∀ t : ByteArray, L t = w ++ r → L (takB dgP t) = w ∧ L (drpB dgP t) = r := fun t et => by
    rw [L_tak, L_drp, et]
    exact takeW_app (fun c : UInt8 => dgP c.toNat) w r h2 hr
  rcases h0 with rfl | rfl
  · obtain ⟨c, w', rfl⟩ := List.exists_cons_of_ne_nil h1
    have hc := dg_ne (h2 c (List.mem_cons_self ..))
    have e1 : L s = c :: (w' ++ r) := e
    have e2 : atF s 45 = false := by rw [atF_cons e1]; exact decide_eq_false (by omega)
    have e3 : atR s 45 = s := by unfold atR; rw [e2]; rfl
    refine ⟨by unfold sgn; rw [e2]; rfl, ?_⟩
    rw [e3]; exact key s e
  · have e1 : L s = 45 :: (w ++ r) := e
    have e2 : atF s 45 = true := by rw [atF_cons e1]; rfl
    have e3 : atR s 45 = tl s := by unfold atR; rw [e2]; rfl
    refine ⟨by unfold sgn; rw [e2]; rfl, ?_⟩
    rw [e3]; exact key (tl s) (by rw [L_tl, e1]; rfl)
theorem int_read (sg w r : List UInt8) (s : ByteArray) (h0 : sg = [] ∨ sg = [45]) (h1 : w ≠ []) (h2 : ∀ c ∈ w, dgU c = true) (h3 : w.length ≤ 15) (hr : ∀ c r', r = c :: r' → dgU c = false) (hp : ∀ c r', r = c :: r' → c.toNat ≠ 46) (e : L s = sg ++ (w ++ r)) :
    rdNumber s = some ((1, sgV sg * (numL w : Int), ⟨#[]⟩), B r) := by
  obtain ⟨a, b, c⟩ := number_read sg w r s h0 h1 h2 hr e
  have a' : (if atF s 45 = true then (-1 : Int) else 1) = sgV sg := a
  unfold rdNumber
  simp only []
  have hw : ¬ (takB dgP (atR s 45)).size = 0 := by rw [size_L, b]; simpa using h1
  have hd : atF (drpB dgP (atR s 45)) 46 = false := by
    cases r with
    | nil => exact atF_nil c 46
    | cons x r' => rw [atF_cons c]; exact decide_eq_false (by have := hp x r' rfl; omega)
  have hl : ¬ (takB dgP (atR s 45)).size > 15 := by rw [size_L, b]; omega
  rw [if_neg hw, hd, if_neg (by decide), if_neg hl, a', numV_L, b]
  have : drpB dgP (atR s 45) = B r := L_inj (by rw [c, L_B])
  rw [this]
theorem dec_read (sg w p r : List UInt8) (s : ByteArray) (h0 : sg = [] ∨ sg = [45]) (h1 : w ≠ []) (h2 : ∀ c ∈ w, dgU c = true) (h3 : w.length ≤ 12) (h4 : p ≠ []) (h5 : ∀ c ∈ p, dgU c = true) (h6 : p.length ≤ 3)
    (hr : ∀ c r', r = c :: r' → dgU c = false) (e : L s = sg ++ (w ++ (46 :: (p ++ r)))) :
    rdNumber s = some ((2, sgV sg * (numL (w ++ (p ++ zerL p.length)) : Int), ⟨#[]⟩), B r) := by
  obtain ⟨a, b, c⟩ := number_read sg w (46 :: (p ++ r)) s h0 h1 h2 (fun c r' h => by cases h; decide) e
  have a' : (if atF s 45 = true then (-1 : Int) else 1) = sgV sg := a
  have hw : ¬ (takB dgP (atR s 45)).size = 0 := by rw [size_L, b]; simpa using h1
  have hd : atF (drpB dgP (atR s 45)) 46 = true := by rw [atF_cons c]; rfl
  have ht : L (tl (drpB dgP (atR s 45))) = p ++ r := by rw [L_tl, c]; rfl
  have hp := takeW_app (fun c : UInt8 => dgP c.toNat) p r h5 hr
  have f1 : L (takB dgP (tl (drpB dgP (atR s 45)))) = p := by rw [L_tak, ht]; exact hp.1
  have f2 : L (drpB dgP (tl (drpB dgP (atR s 45)))) = r := by rw [L_drp, ht]; exact hp.2
  have hn : ¬ ((takB dgP (atR s 45)).size > 12 ∨ (takB dgP (tl (drpB dgP (atR s 45)))).size = 0 ∨ (takB dgP (tl (drpB dgP (atR s 45)))).size > 3) := by
    rw [size_L, size_L, b, f1]
    have : p.length ≠ 0 := by simpa using h4
    omega
  unfold rdNumber
  simp only []
  rw [if_neg hw, hd, if_pos rfl, if_neg hn, a', numV_L, L_app, L_app, zer_L, b, f1, size_L, f1]
  have : drpB dgP (tl (drpB dgP (atR s 45))) = B r := L_inj (by rw [f2, L_B])
  rw [this]
theorem wiQ (c : UInt8) : wiP c.toNat ⟨#[34, 92]⟩ = decide (c.toNat = 34 ∨ c.toNat = 92) := by
  have := allU (fun c : UInt8 => wiP c.toNat ⟨#[34, 92]⟩ == decide (c.toNat = 34 ∨ c.toNat = 92)) (by decide +kernel) c
  exact beq_iff_eq.1 this
theorem le_not (c : UInt8) (h : leP c.toNat = true ∨ (c.toNat : Int) = 42) : ¬ ((c.toNat : Int) = 45 ∨ dgP c.toNat = true) := by
  have := allU (fun c : UInt8 => !(leP c.toNat || decide ((c.toNat : Int) = 42)) || !(decide ((c.toNat : Int) = 45) || dgP c.toNat)) (by decide +kernel) c
  simp only [Bool.or_eq_true, Bool.not_eq_true', Bool.or_eq_false_iff, decide_eq_false_iff_not] at this
  rcases this with ⟨a, b⟩ | ⟨a, b⟩
  · rcases h with h | h
    · rw [h] at a; cases a
    · exact absurd h b
  · rintro (h | h)
    · exact a h
    · rw [h] at b; cases b
theorem num_app (l : List Int) (c : UInt8) (t : List UInt8) (h : L (strOfNums l) = t) : L (strOfNums (l ++ [(c.toNat : Int)])) = t ++ [c] := by
  subst h
  unfold L strOfNums
  simp
theorem q_read : ∀ (q t : List UInt8), QT q t → ∀ (d : Nat) (s : ByteArray) (r : List UInt8) (xs : List Int) (x0 : List UInt8), q.length ≤ d → L s = q ++ r → L (strOfNums xs) = x0 → qF d s xs = some (B (x0 ++ t), B r) := by
  intro q t h
  induction h with
  | stop =>
    intro d s r xs x0 hd e hx
    obtain ⟨d, rfl⟩ : ∃ d', d = d' + 1 := ⟨d - 1, by simp at hd; omega⟩
    have e1 : L s = 34 :: r := e
    rw [qF, if_pos (size_pos e1), bt0 e1, if_pos (by decide)]
    have a1 : strOfNums xs = B (x0 ++ []) := L_inj (by rw [hx, L_B]; simp)
    have a2 : tl s = B r := L_inj (by rw [L_tl, e1, L_B]; rfl)
    rw [a1, a2]
  | plain c q t h1 h2 h3 h4 h ih =>
    intro d s r xs x0 hd e hx
    obtain ⟨d, rfl⟩ : ∃ d', d = d' + 1 := ⟨d - 1, by simp at hd; omega⟩
    have e1 : L s = c :: (q ++ r) := e
    have e2 : L (tl s) = q ++ r := by rw [L_tl, e1]; rfl
    rw [qF, if_pos (size_pos e1), bt0 e1, if_neg (by omega), if_neg (by omega), if_neg (by omega)]
    rw [ih d (tl s) r (xs ++ [(c.toNat : Int)]) (x0 ++ [c]) (by simp at hd; omega) e2 (num_app xs c x0 hx)]
    simp
  | esc c q t h1 h ih =>
    intro d s r xs x0 hd e hx
    obtain ⟨d, rfl⟩ : ∃ d', d = d' + 1 := ⟨d - 1, by simp at hd; omega⟩
    have e1 : L s = 92 :: (c :: (q ++ r)) := e
    have e2 : L (tl s) = c :: (q ++ r) := by rw [L_tl, e1]; rfl
    have e3 : L (tl (tl s)) = q ++ r := by rw [L_tl, e2]; rfl
    have hc : wiP (bt (tl s) 0) ⟨#[34, 92]⟩ = true := by rw [bt0 e2, wiQ]; exact decide_eq_true h1
    rw [qF, if_pos (size_pos e1), bt0 e1, if_neg (by decide), if_neg (by
      rintro (h | h | ⟨_, h⟩)
      · exact absurd h (by decide)
      · exact absurd h (by decide)
      · exact h ⟨size_pos e2, hc⟩), if_pos (by decide), bt0 e2]
    rw [ih d (tl (tl s)) r (xs ++ [(c.toNat : Int)]) (x0 ++ [c]) (by simp at hd; omega) e3 (num_app xs c x0 hx)]
    simp
theorem quoted_read (q t r : List UInt8) (h : QT q t) (s : ByteArray) (e : L s = q ++ r) : rdQuoted s = some ((3, 0, B t), B r) := by
  unfold rdQuoted
  rw [q_read q t h (s.size + 1) s r [] [] (by rw [size_L, e]; simp; omega) e rfl]
  rfl
theorem value_read {u : List UInt8} {n i : Int} {t : List UInt8} (h : VT u n i t) (r : List UInt8) (hr : Ends r) (s : ByteArray) (e : L s = u ++ r) : rdValue s = some ((n, i, B t), B r) := by
  unfold rdValue
  cases h with
  | int sg w h0 h1 h2 h3 =>
    have e' : L s = sg ++ (w ++ r) := by rw [e]; simp
    have hp : 0 < s.size ∧ (bt s 0 = 45 ∨ dgP (bt s 0) = true) := by
      rcases h0 with rfl | rfl
      · obtain ⟨c, w', rfl⟩ := List.exists_cons_of_ne_nil h1
        have e1 : L s = c :: (w' ++ r) := e'
        exact ⟨size_pos e1, Or.inr (by rw [bt0 e1]; exact h2 c (List.mem_cons_self ..))⟩
      · have e1 : L s = 45 :: (w ++ r) := e'
        exact ⟨size_pos e1, Or.inl (by rw [bt0 e1]; rfl)⟩
    rw [if_pos hp.1, if_pos hp.2]
    exact int_read sg w r s h0 h1 h2 h3 (hr.not digU_59) (fun c r' h => (end_ne c (hr c r' h)).1) e'
  | dec sg w p h0 h1 h2 h3 h4 h5 h6 =>
    have e' : L s = sg ++ (w ++ (46 :: (p ++ r))) := by rw [e]; simp
    have hp : 0 < s.size ∧ (bt s 0 = 45 ∨ dgP (bt s 0) = true) := by
      rcases h0 with rfl | rfl
      · obtain ⟨c, w', rfl⟩ := List.exists_cons_of_ne_nil h1
        have e1 : L s = c :: (w' ++ (46 :: (p ++ r))) := e'
        exact ⟨size_pos e1, Or.inr (by rw [bt0 e1]; exact h2 c (List.mem_cons_self ..))⟩
      · have e1 : L s = 45 :: (w ++ (46 :: (p ++ r))) := e'
        exact ⟨size_pos e1, Or.inl (by rw [bt0 e1]; rfl)⟩
    rw [if_pos hp.1, if_pos hp.2]
    exact dec_read sg w p r s h0 h1 h2 h3 h4 h5 h6 (hr.not digU_59) e'
  | tok c w h0 h1 =>
    have e1 : L s = c :: (w ++ r) := e
    have hn := le_not c h0
    rw [if_pos (size_pos e1), bt0 e1, if_neg hn, if_pos h0]
    have k := takeW_app (fun c : UInt8 => tokP c.toNat) (c :: w) r h1 (hr.not tokU_59)
    have a1 : takB tokP s = B (c :: w) := L_inj (by rw [L_tak, e, L_B]; exact k.1)
    have a2 : drpB tokP s = B r := L_inj (by rw [L_drp, e, L_B]; exact k.2)
    rw [a1, a2]
  | quo q t h =>
    have e1 : L s = 34 :: (q ++ r) := e
    rw [if_pos (size_pos e1), bt0 e1, if_neg (by decide), if_neg (by decide +kernel), if_pos (by decide)]
    exact quoted_read q t r h (tl s) (by rw [L_tl, e1]; rfl)
  | byt _ h =>
    have e1 : L s = 58 :: (t ++ (58 :: r)) := by rw [e]; simp
    rw [if_pos (size_pos e1), bt0 e1, if_neg (by decide), if_neg (by decide +kernel), if_neg (by decide), if_pos (by decide)]
    have e2 : L (tl s) = t ++ (58 :: r) := by rw [L_tl, e1]; rfl
    have k := takeW_app (fun c : UInt8 => baP c.toNat) t (58 :: r) h (fun c r' h => by cases h; decide +kernel)
    have a1 : takB baP (tl s) = B t := L_inj (by rw [L_tak, e2, L_B]; exact k.1)
    have a2 : L (drpB baP (tl s)) = 58 :: r := by rw [L_drp, e2]; exact k.2
    have a3 : tl (drpB baP (tl s)) = B r := L_inj (by rw [L_tl, a2, L_B]; rfl)
    unfold rdBytes
    rw [if_pos (by rw [atF_cons a2]; rfl), a1, a3]
  | one =>
    have e1 : L s = 63 :: 49 :: r := e
    have e2 : L (tl s) = 49 :: r := by rw [L_tl, e1]; rfl
    have a3 : tl (tl s) = B r := L_inj (by rw [L_tl, e2, L_B]; rfl)
    rw [if_pos (size_pos e1), bt0 e1, if_neg (by decide), if_neg (by decide +kernel), if_neg (by decide), if_neg (by decide), if_pos (by decide)]
    unfold rdBool
    rw [if_pos (by rw [atF_cons e2]; rfl), a3]; rfl
  | zero =>
    have e1 : L s = 63 :: 48 :: r := e
    have e2 : L (tl s) = 48 :: r := by rw [L_tl, e1]; rfl
    have a3 : tl (tl s) = B r := L_inj (by rw [L_tl, e2, L_B]; rfl)
    rw [if_pos (size_pos e1), bt0 e1, if_neg (by decide), if_neg (by decide +kernel), if_neg (by decide), if_neg (by decide), if_pos (by decide)]
    unfold rdBool
    rw [if_neg (by rw [atF_cons e2]; decide), if_pos (by rw [atF_cons e2]; rfl), a3]; rfl
end Go.Proofs.YtjdbiicjfpgjkaaGreatDoor.Pl
/- Chapter 5: what the reader has read is such a text; parameters; whole items. -/
namespace Go.Proofs.YtjdbiicjfpgjkaaGreatDoor.Pl
open Go.RowKit Go.Proofs.YtjdbiicjfpgjkaaGreatDoor.Q Go.Proofs.YtjdbiicjfpgjkaaGreatDoor.Sf Go.Proofs.YtjdbiicjfpgjkaaGreatDoorW.PrintWords Go.Proofs.YtjdbiicjfpgjkaaGreatDoorW.PrintLast
set_option linter.unusedVariables false
set_option linter.unusedSimpArgs false
theorem u_eq {c d : UInt8} (h : (c.toNat : Int) = (d.toNat : Int)) : c = d := UInt8.toNat_inj.1 (by omega)
theorem cons_of (s : ByteArray) (h : 0 < s.size) : ∃ c r, L s = c :: r := by
  cases e : L s with
  | nil => exact absurd h (size_nil e)
  | cons c r => exact ⟨c, r, rfl⟩
theorem qt_inv : ∀ (d : Nat) (s : ByteArray) (xs : List Int) (o t : ByteArray), qF d s xs = some (o, t) → ∃ q m, L s = q ++ L t ∧ QT q m ∧ L o = L (strOfNums xs) ++ m
  | 0, s, xs, o, t, h => by rw [qF] at h; cases h
  | d + 1, s, xs, o, t, h => by
    rw [qF] at h
    by_cases h0 : 0 < s.size
    · rw [if_pos h0] at h
      obtain ⟨c, r, e⟩ := cons_of s h0
      have et : L (tl s) = r := by rw [L_tl, e]; rfl
      rw [bt0 e] at h
      by_cases c34 : (c.toNat : Int) = 34
      · rw [if_pos c34] at h
        obtain ⟨rfl, rfl⟩ := Prod.mk.inj (Option.some.inj h)
        have : c = 34 := u_eq c34
        subst this
        exact ⟨[34], [], by rw [et, e]; rfl, QT.stop, by simp⟩
      · rw [if_neg c34] at h
        by_cases bad : (c.toNat : Int) < 32 ∨ 126 < (c.toNat : Int) ∨ ((c.toNat : Int) = 92 ∧ ¬ (0 < (tl s).size ∧ wiP (bt (tl s) 0) ⟨#[34, 92]⟩ = true))
        · rw [if_pos bad] at h; cases h
        · rw [if_neg bad] at h
          by_cases c92 : (c.toNat : Int) = 92
          · rw [if_pos c92] at h
            have ok : 0 < (tl s).size ∧ wiP (bt (tl s) 0) ⟨#[34, 92]⟩ = true := Classical.byContradiction fun k => bad (Or.inr (Or.inr ⟨c92, k⟩))
            obtain ⟨c2, r2, e2⟩ := cons_of (tl s) ok.1
            have ok2 := ok.2
            rw [bt0 e2, wiQ] at ok2
            rw [bt0 e2] at h
            obtain ⟨q, m, a1, a2, a3⟩ := qt_inv d _ _ _ _ h
            have e3 : L (tl (tl s)) = r2 := by rw [L_tl, e2]; rfl
            have : c = 92 := u_eq c92
            subst this
            refine ⟨92 :: c2 :: q, c2 :: m, ?_, QT.esc c2 q m (of_decide_eq_true ok2) a2, ?_⟩
            · rw [e3] at a1; rw [e, ← et, e2, a1]; rfl
            · rw [a3, num_app xs c2 _ rfl]; simp
          · rw [if_neg c92] at h
            obtain ⟨q, m, a1, a2, a3⟩ := qt_inv d _ _ _ _ h
            refine ⟨c :: q, c :: m, ?_, QT.plain c q m (by omega) (by omega) (by omega) (by omega) a2, ?_⟩
            · rw [et] at a1; rw [e, a1]; rfl
            · rw [a3, num_app xs c _ rfl]; simp
    · rw [if_neg h0] at h; cases h
theorem quoted_inv {s t : ByteArray} {v : Int × Int × ByteArray} (h : rdQuoted s = some (v, t)) : ∃ q, L s = q ++ L t ∧ QT q (L v.2.2) ∧ v.1 = 3 ∧ v.2.1 = 0 := by
  unfold rdQuoted at h
  obtain ⟨⟨o, t'⟩, hq, hm⟩ := Option.map_eq_some_iff.1 h
  unfold mkQ at hm
  obtain ⟨rfl, rfl⟩ := Prod.mk.inj hm
  obtain ⟨q, m, a1, a2, a3⟩ := qt_inv _ _ _ _ _ hq
  refine ⟨q, a1, ?_, rfl, rfl⟩
  have : L (strOfNums []) = [] := rfl
  rw [this] at a3
  simpa [a3] using a2
theorem number_inv {s t : ByteArray} {v : Int × Int × ByteArray} (h : rdNumber s = some (v, t)) : ∃ u, L s = u ++ L t ∧ VT u v.1 v.2.1 (L v.2.2) := by
  obtain ⟨sg, h0, hs, hg⟩ : ∃ sg : List UInt8, (sg = [] ∨ sg = [45]) ∧ L s = sg ++ L (atR s 45) ∧ (if atF s 45 = true then (-1 : Int) else 1) = sgV sg := by
    unfold atR
    cases e : atF s 45 with
    | false => exact ⟨[], Or.inl rfl, rfl, rfl⟩
    | true =>
      obtain ⟨c, r, e1, e2⟩ := atF_ex e
      have : c = 45 := u_eq e2
      subst this
      exact ⟨[45], Or.inr rfl, by rw [if_pos rfl, L_tl, e1]; rfl, rfl⟩
  unfold rdNumber at h
  simp only [] at h
  rw [hg] at h
  have hw := L_tak dgP (atR s 45)
  have hd := L_drp dgP (atR s 45)
  have hsp := span_split (fun c : UInt8 => dgP c.toNat) (L (atR s 45))
  have hall := tak_all dgP (atR s 45)
  rw [← hw, ← hd] at hsp
  generalize takB dgP (atR s 45) = w at *
  generalize drpB dgP (atR s 45) = s2 at *
  by_cases hw0 : w.size = 0
  · rw [if_pos hw0] at h; cases h
  · rw [if_neg hw0] at h
    have hwn : L w ≠ [] := by rw [size_L] at hw0; intro e; rw [e] at hw0; exact hw0 rfl
    cases e : atF s2 46 with
    | true =>
      rw [e, if_pos rfl] at h
      obtain ⟨c, r, e1, e2⟩ := atF_ex e
      have : c = 46 := u_eq e2
      subst this
      have hw2 := L_tak dgP (tl s2)
      have hd2 := L_drp dgP (tl s2)
      have hsp2 := span_split (fun c : UInt8 => dgP c.toNat) (L (tl s2))
      have hall2 := tak_all dgP (tl s2)
      rw [← hw2, ← hd2] at hsp2
      have et : L (tl s2) = r := by rw [L_tl, e1]; rfl
      generalize takB dgP (tl s2) = p at *
      generalize drpB dgP (tl s2) = s3 at *
      by_cases hb : w.size > 12 ∨ p.size = 0 ∨ p.size > 3
      · rw [if_pos hb] at h; cases h
      · rw [if_neg hb] at h
        obtain ⟨rfl, rfl⟩ := Prod.mk.inj (Option.some.inj h)
        simp only [size_L] at hb
        refine ⟨sg ++ (L w ++ 46 :: L p), ?_, ?_⟩
        · rw [hs, ← hsp, e1, ← et, ← hsp2]; simp
        · have := VT.dec sg (L w) (L p) h0 hwn hall (by omega) (by intro k; rw [k] at hb; exact hb (Or.inr (Or.inl rfl))) hall2 (by omega)
          rw [numV_L, L_app, L_app, zer_L, size_L]
          exact this
    | false =>
      rw [e, if_neg (by decide)] at h
      by_cases hb : w.size > 15
      · rw [if_pos hb] at h; cases h
      · rw [if_neg hb] at h
        obtain ⟨rfl, rfl⟩ := Prod.mk.inj (Option.some.inj h)
        rw [size_L] at hb
        exact ⟨sg ++ L w, by rw [hs, ← hsp]; simp, VT.int sg (L w) h0 hwn hall (by omega)⟩
theorem le_tok (c : UInt8) (h : leP c.toNat = true ∨ (c.toNat : Int) = 42) : toU c = true := by
  have := allU (fun c : UInt8 => !(leP c.toNat || decide ((c.toNat : Int) = 42)) || toU c) (by decide +kernel) c
  simp only [Bool.or_eq_true, Bool.not_eq_true', Bool.or_eq_false_iff, decide_eq_false_iff_not] at this
  rcases this with ⟨a, b⟩ | a
  · rcases h with h | h
    · rw [h] at a; cases a
    · exact absurd h b
  · exact a
theorem value_inv {s t : ByteArray} {v : Int × Int × ByteArray} (h : rdValue s = some (v, t)) : ∃ u, L s = u ++ L t ∧ VT u v.1 v.2.1 (L v.2.2) := by
  unfold rdValue at h
  by_cases h0 : 0 < s.size
  · rw [if_pos h0] at h
    obtain ⟨c, r, e⟩ := cons_of s h0
    have et : L (tl s) = r := by rw [L_tl, e]; rfl
    rw [bt0 e] at h
    by_cases c1 : (c.toNat : Int) = 45 ∨ dgP c.toNat = true
    · rw [if_pos c1] at h; exact number_inv h
    rw [if_neg c1] at h
    by_cases c2 : leP c.toNat = true ∨ (c.toNat : Int) = 42
    · rw [if_pos c2] at h
      obtain ⟨rfl, rfl⟩ := Prod.mk.inj (Option.some.inj h)
      have hw := L_tak tokP s
      have hd := L_drp tokP s
      have hsp := span_split (fun c : UInt8 => tokP c.toNat) (L s)
      rw [← hw, ← hd] at hsp
      refine ⟨L (takB tokP s), hsp.symm, ?_⟩
      have hc : L (takB tokP s) = c :: r.takeWhile (fun c => tokP c.toNat) := by
        rw [hw, e, List.takeWhile_cons, show tokP c.toNat = true from le_tok c c2]; simp
      have hall : ∀ x ∈ L (takB tokP s), toU x = true := tak_all tokP s
      show VT (L (takB tokP s)) 4 0 (L (takB tokP s))
      rw [hc] at hall ⊢
      exact VT.tok c _ c2 hall
    rw [if_neg c2] at h
    by_cases c3 : (c.toNat : Int) = 34
    · rw [if_pos c3] at h
      have : c = 34 := u_eq c3
      subst this
      obtain ⟨q, a1, a2, a3, a4⟩ := quoted_inv h
      refine ⟨34 :: q, by rw [e, ← et, a1]; rfl, ?_⟩
      rw [a3, a4]; exact VT.quo q _ a2
    rw [if_neg c3] at h
    by_cases c4 : (c.toNat : Int) = 58
    · rw [if_pos c4] at h
      have : c = 58 := u_eq c4
      subst this
      unfold rdBytes at h
      have hw := L_tak baP (tl s)
      have hd := L_drp baP (tl s)
      have hsp := span_split (fun c : UInt8 => baP c.toNat) (L (tl s))
      have hall : ∀ x ∈ L (takB baP (tl s)), baU x = true := tak_all baP (tl s)
      rw [← hw, ← hd] at hsp
      cases e5 : atF (drpB baP (tl s)) 58 with
      | false => rw [e5, if_neg (by decide)] at h; cases h
      | true =>
        rw [e5, if_pos rfl] at h
        obtain ⟨rfl, rfl⟩ := Prod.mk.inj (Option.some.inj h)
        obtain ⟨c', r', f1, f2⟩ := atF_ex e5
        have : c' = 58 := u_eq f2
        subst this
        refine ⟨58 :: (L (takB baP (tl s)) ++ [58]), ?_, VT.byt _ hall⟩
        rw [L_tl, f1, e, ← et, ← hsp, f1]; simp
    rw [if_neg c4] at h
    by_cases c5 : (c.toNat : Int) = 63
    · rw [if_pos c5] at h
      have : c = 63 := u_eq c5
      subst this
      unfold rdBool at h
      cases e5 : atF (tl s) 49 with
      | true =>
        rw [e5, if_pos rfl] at h
        obtain ⟨rfl, rfl⟩ := Prod.mk.inj (Option.some.inj h)
        obtain ⟨c', r', f1, f2⟩ := atF_ex e5
        have : c' = 49 := u_eq f2
        subst this
        exact ⟨[63, 49], by rw [L_tl, f1, e, ← et, f1]; rfl, VT.one⟩
      | false =>
        rw [e5, if_neg (by decide)] at h
        cases e6 : atF (tl s) 48 with
        | true =>
          rw [e6, if_pos rfl] at h
          obtain ⟨rfl, rfl⟩ := Prod.mk.inj (Option.some.inj h)
          obtain ⟨c', r', f1, f2⟩ := atF_ex e6
          have : c' = 48 := u_eq f2
          subst this
          exact ⟨[63, 48], by rw [L_tl, f1, e, ← et, f1]; rfl, VT.zero⟩
        | false => rw [e6, if_neg (by decide)] at h; cases h
    · rw [if_neg c5] at h; cases h
  · rw [if_neg h0] at h; cases h
theorem key_first (c : UInt8) (h : smP c.toNat = true ∨ (c.toNat : Int) = 42) : keU c = true ∧ c ≠ 32 := by
  have := allU (fun c : UInt8 => !(smP c.toNat || decide ((c.toNat : Int) = 42)) || (keU c && !decide (c = 32))) (by decide +kernel) c
  simp only [Bool.or_eq_true, Bool.not_eq_true', Bool.or_eq_false_iff, decide_eq_false_iff_not, Bool.and_eq_true] at this
  rcases this with ⟨a, b⟩ | a
  · rcases h with h | h
    · rw [h] at a; cases a
    · exact absurd h b
  · exact a
theorem key_read (k r : List UInt8) (hk : KT k) (hr : ∀ c r', r = c :: r' → keU c = false) (s : ByteArray) (e : L s = k ++ r) : rdKey s = some (B k, B r) := by
  obtain ⟨c, w, rfl, h1, h2⟩ := hk
  have e1 : L s = c :: (w ++ r) := e
  unfold rdKey
  rw [if_pos ⟨size_pos e1, by rw [bt0 e1]; exact h1⟩]
  have k := takeW_app (fun c : UInt8 => keP c.toNat) (c :: w) r h2 hr
  have a1 : takB keP s = B (c :: w) := L_inj (by rw [L_tak, e, L_B]; exact k.1)
  have a2 : drpB keP s = B r := L_inj (by rw [L_drp, e, L_B]; exact k.2)
  rw [a1, a2]
theorem key_inv {s k t : ByteArray} (h : rdKey s = some (k, t)) : L s = L k ++ L t ∧ KT (L k) := by
  unfold rdKey at h
  by_cases h0 : 0 < s.size ∧ (smP (bt s 0) = true ∨ bt s 0 = 42)
  · rw [if_pos h0] at h
    obtain ⟨rfl, rfl⟩ := Prod.mk.inj (Option.some.inj h)
    obtain ⟨c, r, e⟩ := cons_of s h0.1
    have h1 := h0.2
    rw [bt0 e] at h1
    have hw := L_tak keP s
    have hd := L_drp keP s
    have hsp := span_split (fun c : UInt8 => keP c.toNat) (L s)
    rw [← hw, ← hd] at hsp
    have hall : ∀ x ∈ L (takB keP s), keU x = true := tak_all keP s
    refine ⟨hsp.symm, c, r.takeWhile (fun c => keP c.toNat), ?_, h1, hall⟩
    rw [hw, e, List.takeWhile_cons, show keP c.toNat = true from (key_first c h1).1]; simp
  · rw [if_neg h0] at h; cases h
/-- What text turns what parameters to what. -/
inductive PT : List UInt8 → List S60 → List S60 → Prop
  | nil (l : List S60) : PT [] l l
  | flag (b k u : List UInt8) (l l1 : List S60) (hb : ∀ c ∈ b, c = 32) (hk : KT k) (h : PT u (withP (B k) l ⟨B k, 6, 1, ⟨#[]⟩⟩) l1) : PT (59 :: (b ++ (k ++ u))) l l1
  | val (b k w u : List UInt8) (n i : Int) (t : List UInt8) (l l1 : List S60) (hb : ∀ c ∈ b, c = 32) (hk : KT k) (hv : VT w n i t) (h : PT u (withP (B k) l ⟨B k, n, i, B t⟩) l1) : PT (59 :: (b ++ (k ++ (61 :: (w ++ u))))) l l1
theorem PT.ends {u : List UInt8} {l l1 : List S60} (h : PT u l l1) : Ends u := by
  cases h with
  | nil => exact Ends.nil
  | flag => exact Ends.semi _
  | val => exact Ends.semi _
theorem spaces (b k r : List UInt8) (hb : ∀ c ∈ b, c = 32) (hk : KT k) (s : ByteArray) (e : L s = b ++ (k ++ r)) : L (drpB spP s) = k ++ r := by
  obtain ⟨c, w, rfl, h1, h2⟩ := hk
  rw [L_drp, e]
  refine (takeW_app (fun c : UInt8 => spP c.toNat) b ((c :: w) ++ r) (fun x hx => by rw [hb x hx]; decide) (fun c' r' h => ?_)).2
  obtain ⟨rfl, _⟩ := List.cons.inj h
  have := (key_first c h1).2
  unfold spP
  rw [beq_eq_false_iff_ne]
  intro k
  exact this (u_eq k)
theorem pt_read {u : List UInt8} {l l1 : List S60} (h : PT u l l1) : ∀ (d : Nat) (s : ByteArray), u.length < d → L s = u → pF d s l = some (l1, B []) := by
  induction h with
  | nil l =>
    intro d s hd e
    obtain ⟨d, rfl⟩ : ∃ d', d = d' + 1 := ⟨d - 1, by simp at hd; omega⟩
    rw [pF, atF_nil e, if_neg (by decide)]
    have : s = B [] := L_inj (by rw [e, L_B])
    rw [this]
  | flag b k u l l1 hb hk h ih =>
    intro d s hd e
    obtain ⟨d, rfl⟩ : ∃ d', d = d' + 1 := ⟨d - 1, by simp at hd; omega⟩
    have e1 : L (tl s) = b ++ (k ++ u) := by rw [L_tl, e]; rfl
    rw [pF, atF_cons e, if_pos (by decide), key_read k u hk (h.ends.not keyU_59) _ (spaces b k u hb hk _ e1)]
    simp only [Option.bind_some]
    have a : atF (B u) 61 = false := by
      cases hu : u with
      | nil => exact atF_nil (L_B []) 61
      | cons x u' => rw [atF_cons (L_B (x :: u'))]; exact decide_eq_false (end_ne x (h.ends x u' hu)).2
    rw [a, if_neg (by decide)]
    exact ih d (B u) (by simp at hd; omega) (L_B u)
  | val b k w u n i t l l1 hb hk hv h ih =>
    intro d s hd e
    obtain ⟨d, rfl⟩ : ∃ d', d = d' + 1 := ⟨d - 1, by simp at hd; omega⟩
    have e1 : L (tl s) = b ++ (k ++ (61 :: (w ++ u))) := by rw [L_tl, e]; rfl
    rw [pF, atF_cons e, if_pos (by decide), key_read k (61 :: (w ++ u)) hk (fun c r' h => by cases h; decide +kernel) _ (spaces b k _ hb hk _ e1)]
    simp only [Option.bind_some]
    rw [atF_cons (L_B (61 :: (w ++ u))), if_pos (by decide), value_read hv u h.ends _ (by rw [L_tl, L_B]; rfl)]
    simp only [Option.bind_some]
    exact ih d (B u) (by simp at hd; omega) (L_B u)
theorem all_of_take {q : UInt8 → Bool} (l : List UInt8) : ∀ c ∈ l.takeWhile q, q c = true := fun c hc => mem_takeWhile q l c hc
theorem pt_inv : ∀ (d : Nat) (s : ByteArray) (l l1 : List S60) (t : ByteArray), pF d s l = some (l1, t) → ∃ u, L s = u ++ L t ∧ PT u l l1 ∧ atF t 59 = false
  | 0, s, l, l1, t, h => by rw [pF] at h; cases h
  | d + 1, s, l, l1, t, h => by
    rw [pF] at h
    cases e : atF s 59 with
    | false =>
      rw [e, if_neg (by decide)] at h
      obtain ⟨rfl, rfl⟩ := Prod.mk.inj (Option.some.inj h)
      exact ⟨[], rfl, PT.nil _, e⟩
    | true =>
      rw [e, if_pos rfl] at h
      obtain ⟨c, r, e1, e2⟩ := atF_ex e
      have : c = 59 := u_eq e2
      subst this
      have et : L (tl s) = r := by rw [L_tl, e1]; rfl
      obtain ⟨⟨k, t1⟩, hk, h⟩ := Option.bind_eq_some_iff.1 h
      simp only [] at h
      obtain ⟨a1, a2⟩ := key_inv hk
      have hsp := span_split (fun c : UInt8 => spP c.toNat) (L (tl s))
      rw [← L_drp spP (tl s), a1] at hsp
      have hb : ∀ c ∈ (L (tl s)).takeWhile (fun c : UInt8 => spP c.toNat), c = 32 := by
        intro c hc
        have := all_of_take (q := fun c : UInt8 => spP c.toNat) (L (tl s)) c hc
        unfold spP at this
        exact u_eq (beq_iff_eq.1 this)
      generalize List.takeWhile (fun c : UInt8 => spP c.toNat) (L (tl s)) = bl at hsp hb
      cases e3 : atF t1 61 with
      | true =>
        rw [e3, if_pos rfl] at h
        obtain ⟨⟨v, t2⟩, hv, h⟩ := Option.bind_eq_some_iff.1 h
        obtain ⟨c', r', f1, f2⟩ := atF_ex e3
        have : c' = 61 := u_eq f2
        subst this
        have et1 : L (tl t1) = r' := by rw [L_tl, f1]; rfl
        obtain ⟨w, b1, b2⟩ := value_inv hv
        obtain ⟨u, g1, g2, g3⟩ := pt_inv d _ _ _ _ h
        simp only [] at g1 g2
        refine ⟨59 :: (bl ++ (L k ++ (61 :: (w ++ u)))), ?_, PT.val _ _ w u v.1 v.2.1 (L v.2.2) _ _ hb a2 b2 (by rw [B_L, B_L]; exact g2), g3⟩
        rw [e1, ← et, ← hsp, f1, ← et1, b1, g1]
        simp
      | false =>
        rw [e3, if_neg (by decide)] at h
        obtain ⟨u, g1, g2, g3⟩ := pt_inv d _ _ _ _ h
        refine ⟨59 :: (bl ++ (L k ++ u)), ?_, PT.flag _ _ u _ _ hb a2 (by rw [B_L]; exact g2), g3⟩
        rw [e1, ← et, ← hsp, g1]
        simp
def Last0 (u : List UInt8) : Prop := ∃ u' c, u = u' ++ [c] ∧ c ≠ 32
theorem Last0.cons {u : List UInt8} (h : Last0 u) (a : List UInt8) : Last0 (a ++ u) := by obtain ⟨u', c, rfl, hc⟩ := h; exact ⟨a ++ u', c, by simp, hc⟩
theorem last_all (q : UInt8 → Bool) (hq : q 32 = false) (w : List UInt8) (hw : w ≠ []) (h : ∀ c ∈ w, q c = true) : Last0 w := by
  refine ⟨w.dropLast, w.getLast hw, (List.dropLast_concat_getLast hw).symm, fun e => ?_⟩
  have := h _ (List.getLast_mem hw)
  rw [e, hq] at this; cases this
theorem qt_last {q t : List UInt8} (h : QT q t) : Last0 q := by
  induction h with
  | stop => exact ⟨[], 34, rfl, by decide⟩
  | plain c q t _ _ _ _ _ ih => exact ih.cons [c]
  | esc c q t _ _ ih => exact ih.cons [92, c]
theorem vt_last {u : List UInt8} {n i : Int} {t : List UInt8} (h : VT u n i t) : Last0 u := by
  cases h with
  | int sg w h0 h1 h2 h3 => exact (last_all dgU (by decide) w h1 h2).cons sg
  | dec sg w p h0 h1 h2 h3 h4 h5 h6 => exact ((last_all dgU (by decide) p h4 h5).cons (sg ++ (w ++ [46]))) |> fun h => by simpa using h
  | tok c w h0 h1 => exact last_all toU (by decide +kernel) _ (by simp) h1
  | quo q t h => exact (qt_last h).cons [34]
  | byt h => exact ⟨58 :: t, 58, by simp, by decide⟩
  | one => exact ⟨[63], 49, rfl, by decide⟩
  | zero => exact ⟨[63], 48, rfl, by decide⟩
theorem vt_first {u : List UInt8} {n i : Int} {t : List UInt8} (h : VT u n i t) : ∃ c u', u = c :: u' ∧ c ≠ 32 := by
  cases h with
  | int sg w h0 h1 h2 h3 =>
    rcases h0 with rfl | rfl
    · obtain ⟨c, w', rfl⟩ := List.exists_cons_of_ne_nil h1
      exact ⟨c, w', rfl, fun e => by have := h2 c (List.mem_cons_self ..); subst e; revert this; decide⟩
    · exact ⟨45, w, rfl, by decide⟩
  | dec sg w p h0 h1 h2 h3 h4 h5 h6 =>
    rcases h0 with rfl | rfl
    · obtain ⟨c, w', rfl⟩ := List.exists_cons_of_ne_nil h1
      exact ⟨c, w' ++ 46 :: p, rfl, fun e => by have := h2 c (List.mem_cons_self ..); subst e; revert this; decide⟩
    · exact ⟨45, w ++ 46 :: p, rfl, by decide⟩
  | tok c w h0 h1 => exact ⟨c, w, rfl, fun e => by have := h1 c (List.mem_cons_self ..); subst e; revert this; decide +kernel⟩
  | quo q t h => exact ⟨34, q, rfl, by decide⟩
  | byt h => exact ⟨58, _, rfl, by decide⟩
  | one => exact ⟨63, _, rfl, by decide⟩
  | zero => exact ⟨63, _, rfl, by decide⟩
theorem kt_last {k : List UInt8} (h : KT k) : Last0 k := by
  obtain ⟨c, w, rfl, h1, h2⟩ := h
  exact last_all keU (by decide +kernel) _ (by simp) h2
theorem pt_last {u : List UInt8} {l l1 : List S60} (h : PT u l l1) : u = [] ∨ Last0 u := by
  induction h with
  | nil => exact Or.inl rfl
  | flag b k u l l1 hb hk h ih =>
    refine Or.inr ?_
    rcases ih with rfl | ih
    · have := (kt_last hk).cons (59 :: b); simpa using this
    · have := ih.cons (59 :: (b ++ k)); simpa using this
  | val b k w u n i t l l1 hb hk hv h ih =>
    refine Or.inr ?_
    rcases ih with rfl | ih
    · have := (vt_last hv).cons (59 :: (b ++ (k ++ [61]))); simpa using this
    · have := ih.cons (59 :: (b ++ (k ++ (61 :: w)))); simpa using this
/-- What text tells what item. -/
def IT (u : List UInt8) (n i : Int) (t : List UInt8) (l : List S60) : Prop := ∃ a b, u = a ++ b ∧ VT a n i t ∧ PT b [] l
theorem next_read {u : List UInt8} {n i : Int} {t : List UInt8} {l : List S60} (h : IT u n i t l) (s : ByteArray) (e : L s = u) : rdNext s = some ((n, i, B t), l, B []) := by
  obtain ⟨a, b, rfl, hv, hp⟩ := h
  unfold rdNext
  rw [value_read hv b hp.ends s e]
  simp only [Option.bind_some]
  unfold rdParams
  rw [pt_read hp _ (B b) (by rw [size_L, L_B]; omega) (L_B b)]
  rfl
theorem next_inv {s : ByteArray} {v : Int × Int × ByteArray} {l : List S60} {t : ByteArray} (h : rdNext s = some (v, l, t)) : ∃ u, L s = u ++ L t ∧ IT u v.1 v.2.1 (L v.2.2) l ∧ atF t 59 = false := by
  unfold rdNext at h
  obtain ⟨⟨v', t1⟩, h1, h⟩ := Option.bind_eq_some_iff.1 h
  obtain ⟨⟨l', t2⟩, h2, h⟩ := Option.bind_eq_some_iff.1 h
  have h := Option.some.inj h
  simp only [Prod.mk.injEq] at h
  obtain ⟨rfl, rfl, rfl⟩ := h
  obtain ⟨a, a1, a2⟩ := value_inv h1
  obtain ⟨b, b1, b2, b3⟩ := pt_inv _ _ _ _ _ h2
  exact ⟨a ++ b, by rw [a1, b1]; simp, ⟨a, b, rfl, a2, b2⟩, b3⟩
theorem trim_len (u : List UInt8) : (Lib.trimB u 32).length ≤ u.length := by
  unfold Lib.trimB Lib.trimLeftB Lib.trimRightB
  have h1 := (List.dropWhile_sublist (fun c : UInt8 => c == 32) (l := (u.reverse.dropWhile (· == 32)).reverse)).length_le
  have h2 := (List.dropWhile_sublist (fun c : UInt8 => c == 32) (l := u.reverse)).length_le
  simp only [List.length_reverse] at h1 h2
  omega
theorem IT.pos {u : List UInt8} {n i : Int} {t : List UInt8} {l : List S60} (h : IT u n i t l) : 0 < u.length := by
  obtain ⟨a, b, rfl, hv, hp⟩ := h
  obtain ⟨c, a', rfl, hc⟩ := vt_first hv
  simp
end Go.Proofs.YtjdbiicjfpgjkaaGreatDoor.Pl
/- Chapter 5: values' text, there and back. -/
namespace Go.Proofs.YtjdbiicjfpgjkaaGreatDoor.Pl
open Go.RowKit Go.Proofs.YtjdbiicjfpgjkaaGreatDoor.Q Go.Proofs.YtjdbiicjfpgjkaaGreatDoor.Sf Go.Proofs.YtjdbiicjfpgjkaaGreatDoorW.PrintWords Go.Proofs.YtjdbiicjfpgjkaaGreatDoorW.PrintLast
set_option linter.unusedVariables false
set_option linter.unusedSimpArgs false
theorem numL_fold : ∀ (b : List UInt8) (acc : Nat), b.foldl (fun a c => a * 10 + (c.toNat - 48)) acc = acc * 10 ^ b.length + numL b
  | [], acc => by simp [numL]
  | c :: b, acc => by
    have h1 := numL_fold b (acc * 10 + (c.toNat - 48))
    have h2 := numL_fold b (0 * 10 + (c.toNat - 48))
    have e : numL (c :: b) = b.foldl (fun a c => a * 10 + (c.toNat - 48)) (0 * 10 + (c.toNat - 48)) := rfl
    rw [List.foldl_cons, h1, e, h2, List.length_cons, Nat.pow_succ]
    simp only [Nat.add_mul, Nat.zero_mul, Nat.zero_add, Nat.mul_assoc, Nat.mul_comm 10 (10 ^ b.length), Nat.add_assoc]
theorem numL_app (a b : List UInt8) : numL (a ++ b) = numL a * 10 ^ b.length + numL b := by
  have : numL (a ++ b) = b.foldl (fun a c => a * 10 + (c.toNat - 48)) (numL a) := by unfold numL; rw [List.foldl_append]
  rw [this, numL_fold]
theorem numL_bound (l : List UInt8) (h : ∀ c ∈ l, dgU c = true) : numL l < 10 ^ l.length := by
  have := num_bound l 0 h
  rw [Nat.zero_add, Nat.one_mul] at this
  exact this
theorem ofNat_dg (d : Nat) (h : d < 10) : dgU (UInt8.ofNat (48 + d)) = true ∧ (UInt8.ofNat (48 + d)).toNat - 48 = d := by
  have : ((List.range 10).all fun d => dgU (UInt8.ofNat (48 + d)) && decide ((UInt8.ofNat (48 + d)).toNat - 48 = d)) = true := by decide +kernel
  have := List.all_eq_true.1 this d (List.mem_range.2 h)
  simpa using this
theorem dec_all (u : Nat) : (∀ c ∈ Lib.decDigits u, dgU c = true) ∧ numL (Lib.decDigits u) = u := by
  induction u using Nat.strongRecOn with
  | _ u ih =>
    by_cases h : u < 10
    · rw [Lib.decDigits, dif_pos h]
      have := ofNat_dg u h
      exact ⟨fun c hc => by obtain rfl := List.mem_singleton.1 hc; exact this.1, by show 0 * 10 + ((UInt8.ofNat (48 + u)).toNat - 48) = u; rw [this.2]; omega⟩
    · rw [Lib.decDigits, dif_neg h]
      have k := ih (u / 10) (by omega)
      have d := ofNat_dg (u % 10) (by omega)
      refine ⟨fun c hc => ?_, ?_⟩
      · rcases List.mem_append.1 hc with hc | hc
        · exact k.1 c hc
        · obtain rfl := List.mem_singleton.1 hc; exact d.1
      · rw [numL_app, k.2]
        have : numL [UInt8.ofNat (48 + u % 10)] = u % 10 := by show 0 * 10 + ((UInt8.ofNat (48 + u % 10)).toNat - 48) = u % 10; rw [d.2]; omega
        rw [this]; simp; omega
theorem dec_ne (u : Nat) : Lib.decDigits u ≠ [] := by
  rw [Lib.decDigits]; split <;> simp
theorem dec_len : ∀ (n u : Nat), u < 10 ^ (n + 1) → (Lib.decDigits u).length ≤ n + 1
  | 0, u, h => by rw [Lib.decDigits, dif_pos (by simpa using h)]; simp
  | n + 1, u, h => by
    rw [Lib.decDigits]
    split
    · simp
    · have := dec_len n (u / 10) (by rw [Nat.pow_succ] at h; omega)
      simp; omega
def sgO (i : Int) : List UInt8 := if i < 0 then [45] else []
theorem sgO_or (i : Int) : sgO i = [] ∨ sgO i = [45] := by unfold sgO; split <;> simp
theorem sgO_val (i : Int) : sgV (sgO i) * (i.natAbs : Int) = i := by
  unfold sgO sgV; split <;> simp <;> omega
theorem itoa_L (i : Int) : L (itoaBA i) = sgO i ++ Lib.decDigits i.natAbs := by
  have : L (itoaBA i) = Lib.itoa i := by unfold L itoaBA; simp
  rw [this]; unfold Lib.itoa sgO
  split
  · rfl
  · rw [show i.toNat = i.natAbs by omega]; rfl
theorem L_toList (s : ByteArray) : s.toList = L s := Lib.toList_data s
theorem L_nil : L (⟨#[]⟩ : ByteArray) = [] := rfl
theorem empty_of {t : ByteArray} (h : t.toList.isEmpty = true) : L t = [] := by rw [L_toList] at h; simpa using h
theorem int_back (i : Int) (h : -999999999999999 ≤ i ∧ i ≤ 999999999999999) : VT (L (itoaBA i)) 1 i [] := by
  have hd := dec_all i.natAbs
  have := VT.int (sgO i) (Lib.decDigits i.natAbs) (sgO_or i) (dec_ne _) hd.1 (dec_len 14 _ (by omega))
  rw [hd.2, sgO_val] at this
  rw [itoa_L]; exact this
def frL (r : Nat) : List UInt8 := let z := Lib.trimRightB [UInt8.ofNat (48 + r / 100), UInt8.ofNat (48 + r / 10 % 10), UInt8.ofNat (48 + r % 10)] 48; if z = [] then [48] else z
set_option maxRecDepth 100000 in
theorem fr_all : ((List.range 1000).all fun r => (frL r).all dgU && (decide (frL r ≠ []) && (decide ((frL r).length ≤ 3) && decide (numL (frL r ++ zerL (frL r).length) = r)))) = true := by decide +kernel
theorem fr_at (r : Nat) (h : r < 1000) : (∀ c ∈ frL r, dgU c = true) ∧ frL r ≠ [] ∧ (frL r).length ≤ 3 ∧ numL (frL r ++ zerL (frL r).length) = r := by
  have := List.all_eq_true.1 fr_all r (List.mem_range.2 h)
  simp only [Bool.and_eq_true, decide_eq_true_eq, List.all_eq_true] at this
  exact ⟨this.1, this.2.1, this.2.2.1, this.2.2.2⟩
theorem dec_thousand (r : Nat) (h : r < 1000) : Lib.decDigits (1000 + r) = [49, UInt8.ofNat (48 + r / 100), UInt8.ofNat (48 + r / 10 % 10), UInt8.ofNat (48 + r % 10)] := by
  rw [Lib.decDigits, dif_neg (by omega), Lib.decDigits, dif_neg (by omega), Lib.decDigits, dif_neg (by omega), Lib.decDigits, dif_pos (by omega)]
  rw [show (1000 + r) / 10 / 10 / 10 = 1 by omega, show (1000 + r) / 10 / 10 % 10 = r / 100 by omega, show (1000 + r) / 10 % 10 = r / 10 % 10 by omega, show (1000 + r) % 10 = r % 10 by omega]
  rfl
theorem trimZ_L (s : ByteArray) : L (trimZ s) = Lib.trimRightB (L s) 48 := by unfold trimZ L; simp
theorem frac_L (m : Nat) : L (fracB m) = frL (m % 1000) := by
  have h1 : L (itoaBA (1000 + Int.tmod (m : Int) 1000)) = Lib.decDigits (1000 + m % 1000) := by
    have e : (1000 + Int.tmod (m : Int) 1000) = ((1000 + m % 1000 : Nat) : Int) := by rw [Int.tmod_eq_emod_of_nonneg (by omega)]; omega
    rw [e, itoa_L]
    have : sgO ((1000 + m % 1000 : Nat) : Int) = [] := by unfold sgO; rw [if_neg (by omega)]
    rw [this, Int.natAbs_natCast]; rfl
  have h2 : L (tailZ (m : Int)) = Lib.trimRightB [UInt8.ofNat (48 + m % 1000 / 100), UInt8.ofNat (48 + m % 1000 / 10 % 10), UInt8.ofNat (48 + m % 1000 % 10)] 48 := by
    unfold tailZ
    rw [trimZ_L]
    have : L ((itoaBA (1000 + Int.tmod (m : Int) 1000)).extract 1 (itoaBA (1000 + Int.tmod (m : Int) 1000)).size) = (L (itoaBA (1000 + Int.tmod (m : Int) 1000))).tail := L_tl _
    rw [this, h1, dec_thousand _ (by omega)]; rfl
  unfold fracB frL
  simp only []
  by_cases hz : 0 < (tailZ (m : Int)).size
  · rw [if_pos hz]
    obtain ⟨c, r, e⟩ := cons_of _ hz
    rw [← h2, if_neg (by rw [e]; simp)]
  · rw [if_neg hz]
    have e : L (tailZ (m : Int)) = [] := by rw [size_L] at hz; exact List.length_eq_zero_iff.1 (by omega)
    rw [← h2, if_pos e]; rfl
theorem dec_L (i : Int) : L (decB i) = sgO i ++ (Lib.decDigits (i.natAbs / 1000) ++ 46 :: frL (i.natAbs % 1000)) := by
  have hm : magn i = (i.natAbs : Int) := by unfold magn; split <;> omega
  have hs : L (signB i) = sgO i := by unfold signB sgO; split <;> rfl
  unfold decB
  rw [L_app, L_app, L_app, hs, hm, frac_L, itoa_L]
  have e : Int.tdiv (i.natAbs : Int) 1000 = ((i.natAbs / 1000 : Nat) : Int) := by rw [Int.tdiv_eq_ediv_of_nonneg (by omega)]; omega
  have : sgO (((i.natAbs / 1000 : Nat)) : Int) = [] := by unfold sgO; rw [if_neg (by omega)]
  rw [e, this, Int.natAbs_natCast]
  show (sgO i ++ ([] ++ Lib.decDigits (i.natAbs / 1000))) ++ [46] ++ frL (i.natAbs % 1000) = _
  simp
theorem zer_len (n : Nat) (h : n ≤ 3) : (zerL n).length = 3 - n := by unfold zerL; simp
theorem dec_back (i : Int) (h : -999999999999999 ≤ i ∧ i ≤ 999999999999999) : VT (L (decB i)) 2 i [] := by
  have hd := dec_all (i.natAbs / 1000)
  have hf := fr_at (i.natAbs % 1000) (by omega)
  have := VT.dec (sgO i) (Lib.decDigits (i.natAbs / 1000)) (frL (i.natAbs % 1000)) (sgO_or i) (dec_ne _) hd.1 (dec_len 11 _ (by omega)) hf.2.1 hf.1 hf.2.2.1
  have hn : numL (Lib.decDigits (i.natAbs / 1000) ++ (frL (i.natAbs % 1000) ++ zerL (frL (i.natAbs % 1000)).length)) = i.natAbs := by
    rw [numL_app, hd.2, hf.2.2.2, List.length_append, zer_len _ hf.2.2.1]
    rw [show (frL (i.natAbs % 1000)).length + (3 - (frL (i.natAbs % 1000)).length) = 3 by have := hf.2.2.1; omega]
    omega
  rw [hn, sgO_val] at this
  rw [dec_L]; exact this
def esc (t : List UInt8) : List UInt8 := t.flatMap fun c => if c.toNat = 34 ∨ c.toNat = 92 then [92, c] else [c]
def Plain (t : List UInt8) : Prop := ∀ c ∈ t, 32 ≤ c.toNat ∧ c.toNat ≤ 126
theorem q_esc : ∀ t : List UInt8, Plain t → QT (esc t ++ [34]) t
  | [], _ => QT.stop
  | c :: t, h => by
    have ih := q_esc t (fun x hx => h x (List.mem_cons_of_mem _ hx))
    have hc := h c (List.mem_cons_self ..)
    unfold esc
    rw [List.flatMap_cons]
    by_cases k : c.toNat = 34 ∨ c.toNat = 92
    · rw [if_pos k]; exact QT.esc c _ t k ih
    · rw [if_neg k]; exact QT.plain c _ t hc.1 hc.2 (fun e => k (Or.inl e)) (fun e => k (Or.inr e)) ih
theorem esc_len (t : List UInt8) : (esc t).length ≤ 2 * t.length := by
  induction t with
  | nil => simp [esc]
  | cons c t ih =>
    have e : esc (c :: t) = (if c.toNat = 34 ∨ c.toNat = 92 then [92, c] else [c]) ++ esc t := by unfold esc; rw [List.flatMap_cons]
    rw [e, List.length_append, List.length_cons]
    have : (if c.toNat = 34 ∨ c.toNat = 92 then [92, c] else [c]).length ≤ 2 := by split <;> simp
    omega
theorem bt_get (t : ByteArray) (k : Nat) (h : k < (L t).length) : bt t k = ((L t)[k].toNat : Int) := bt_list t k h
theorem take_snoc {α : Type} (l : List α) (k : Nat) (h : k < l.length) : l.take (k + 1) = l.take k ++ [l[k]] := by
  rw [List.take_add_one, List.getElem?_eq_getElem h]; rfl
theorem qOut_eq (t : ByteArray) : ∀ k : Nat, k ≤ (L t).length → Plain ((L t).take k) → qOut t k = some (B (34 :: esc ((L t).take k)))
  | 0, _, _ => by rw [qOut]; rfl
  | k + 1, hk, hp => by
    have hk' : k < (L t).length := by omega
    rw [take_snoc _ _ hk'] at hp
    have ih := qOut_eq t k (by omega) (fun c hc => hp c (List.mem_append.2 (Or.inl hc)))
    have hc := hp _ (List.mem_append.2 (Or.inr (List.mem_singleton.2 rfl)))
    rw [qOut, ih]
    simp only [Option.bind_some]
    rw [bt_get t k hk', if_neg (by omega), wiQ, take_snoc _ _ hk']
    congr 1
    apply L_inj
    rw [L_app, L_B]
    have e1 : L (strOfNums [((L t)[k].toNat : Int)]) = [(L t)[k]] := by
      have := num_app [] (L t)[k] [] rfl
      simpa using this
    have e2 : esc ((L t).take k ++ [(L t)[k]]) = esc ((L t).take k) ++ (if (L t)[k].toNat = 34 ∨ (L t)[k].toNat = 92 then [92, (L t)[k]] else [(L t)[k]]) := by
      unfold esc; rw [List.flatMap_append, List.flatMap_singleton]
    rw [e1, e2]
    by_cases z : (L t)[k].toNat = 34 ∨ (L t)[k].toNat = 92
    · rw [decide_eq_true z, if_pos rfl, if_pos z, L_app, L_B]
      show (34 :: esc ((L t).take k)) ++ [92] ++ [(L t)[k]] = _
      simp
    · rw [decide_eq_false z, if_neg (by decide), if_neg z, L_B]; simp
theorem qOut_bad (t : ByteArray) (j : Nat) (hj : j < (L t).length) (h : ¬ (32 ≤ (L t)[j].toNat ∧ (L t)[j].toNat ≤ 126)) : qOut t t.size = none := by
  refine qOut_none t (j + 1) ?_ t.size (by rw [size_L]; omega)
  rw [qOut, bt_get t j hj]
  cases qOut t j with
  | none => rfl
  | some o => rw [Option.bind_some, if_pos (by omega)]
theorem text_plain (t : ByteArray) (i : Int) (h : Plain (L t)) : textF i t = (B (34 :: (esc (L t) ++ [34])), i == 0) := by
  unfold textF
  rw [size_L, qOut_eq t _ (Nat.le_refl _) (by rw [List.take_length]; exact h), List.take_length]
  simp only []
  have : (B (34 :: esc (L t)) ++ (⟨#[34]⟩ : ByteArray)) = B (34 :: (esc (L t) ++ [34])) := by
    apply L_inj
    rw [L_app, L_B, L_B]
    rfl
  rw [this]
theorem text_bad (t : ByteArray) (i : Int) (h : ¬ Plain (L t)) : textF i t = (⟨#[]⟩, false) := by
  unfold textF
  have : ∃ j, ∃ hj : j < (L t).length, ¬ (32 ≤ (L t)[j].toNat ∧ (L t)[j].toNat ≤ 126) := by
    refine Classical.byContradiction fun k => h fun c hc => ?_
    obtain ⟨j, hj, rfl⟩ := List.mem_iff_getElem.1 hc
    exact Classical.byContradiction fun z => k ⟨j, hj, z⟩
  obtain ⟨j, hj, hb⟩ := this
  rw [qOut_bad t j hj hb]
theorem and_odd (x : Nat) (h : x &&& 18446744073709551614 = 0) (hx : x < 18446744073709551616) : x < 2 := by
  have h1 : (x &&& 18446744073709551614) >>> 1 = 0 := by rw [h]; rfl
  rw [Nat.shiftRight_and_distrib] at h1
  have h2 : (18446744073709551614 : Nat) >>> 1 = 2 ^ 63 - 1 := by decide
  rw [h2, Nat.and_two_pow_sub_one_eq_mod, show x >>> 1 = x / 2 from rfl] at h1
  omega
theorem flag_of (i : Int) (h : -999999999999999 ≤ i ∧ i ≤ 999999999999999) (hb : (Go.bits .andNot .i64 i 1 == 0) = true) : i = 0 ∨ i = 1 := by
  have hb := beq_iff_eq.1 hb
  have e : Go.bits .andNot .i64 i 1 = IntKind.i64.wrap ((BitVec.ofInt 64 i &&& ~~~BitVec.ofInt 64 1).toNat : Int) := rfl
  rw [e] at hb
  have hx : (BitVec.ofInt 64 i).toNat = (i % 18446744073709551616).toNat := by rw [BitVec.toNat_ofInt]; rfl
  have hy : (~~~BitVec.ofInt 64 1).toNat = 18446744073709551614 := by decide
  rw [BitVec.toNat_and, hy, hx] at hb
  have hl : (i % 18446744073709551616).toNat < 18446744073709551616 := by omega
  have hz : (i % 18446744073709551616).toNat &&& 18446744073709551614 < 18446744073709551616 := Nat.lt_of_le_of_lt Nat.and_le_left hl
  have := and_odd _ ?_ hl
  · omega
  · generalize (i % 18446744073709551616).toNat &&& 18446744073709551614 = m at hb hz
    rw [IntKind.wrap_i64] at hb
    first | omega | (split at hb <;> omega)
end Go.Proofs.YtjdbiicjfpgjkaaGreatDoor.Pl
/- Chapter 5: values, parameters and items, there and back. -/
namespace Go.Proofs.YtjdbiicjfpgjkaaGreatDoor.Pl
open Go.RowKit Go.Proofs.YtjdbiicjfpgjkaaGreatDoor.Q Go.Proofs.YtjdbiicjfpgjkaaGreatDoor.Sf Go.Proofs.YtjdbiicjfpgjkaaGreatDoorW.PrintWords Go.Proofs.YtjdbiicjfpgjkaaGreatDoorW.PrintLast
set_option linter.unusedVariables false
set_option linter.unusedSimpArgs false
theorem eq_nil {t : ByteArray} (h : L t = []) : t = ⟨#[]⟩ := L_inj (h.trans L_nil.symm)
/-- A text that is one whole value. -/
theorem whole_of {s : ByteArray} {n i : Int} {t : List UInt8} (h : VT (L s) n i t) (hz : s.size ≤ 2199023255552) (m : Int) : sfitem_whole.f s m = some (decide (n = m)) := by
  have hn := next_read ⟨L s, [], by simp, h, PT.nil []⟩ s rfl
  unfold sfitem_whole.f sfitem_Next.f
  rw [if_pos hz, hn]
  simp only [Option.bind_some]
  rw [if_pos trivial, if_pos (by rw [L_toList, L_B])]
  by_cases e : n = m
  · rw [if_pos e, decide_eq_true e]; rfl
  · rw [if_neg e, decide_eq_false e]
theorem pt_some {u : List UInt8} {l l1 : List S60} (h : PT u l l1) : l ≠ [] → l1 ≠ [] := by
  induction h with
  | nil => exact id
  | flag b k u l l1 hb hk h ih => exact fun hl => ih (by unfold withP; split <;> simp [hl])
  | val b k w u n i t l l1 hb hk hv h ih => exact fun hl => ih (by unfold withP; split <;> simp [hl])
theorem with_nil (k : ByteArray) (p : S60) : withP k [] p = [p] := rfl
theorem pt_none {u : List UInt8} (h : PT u [] []) : u = [] := by
  cases h with
  | nil => rfl
  | flag b k u l l1 hb hk h => exact absurd rfl (pt_some h (by rw [with_nil]; simp))
  | val b k w u n i t l l1 hb hk hv h => exact absurd rfl (pt_some h (by rw [with_nil]; simp))
theorem whole_inv {s : ByteArray} {m : Int} (h : sfitem_whole.f s m = some true) : ∃ i t, VT (L s) m i t := by
  unfold sfitem_whole.f sfitem_Next.f at h
  by_cases hz : s.size ≤ 2199023255552
  · rw [if_pos hz] at h
    cases hn : rdNext s with
    | none => rw [hn] at h; simp at h
    | some x =>
      obtain ⟨v, l, t⟩ := x
      rw [hn] at h
      simp only [Option.bind_some] at h
      rw [if_pos trivial] at h
      by_cases ht : t.toList = ([] : List UInt8)
      · rw [if_pos ht] at h
        by_cases hm : v.1 = m
        · rw [if_pos hm] at h
          have hl : l = [] := by simpa using h
          obtain ⟨u, a1, ⟨a, b, rfl, hv, hp⟩, a3⟩ := next_inv hn
          rw [L_toList] at ht
          rw [ht, List.append_nil] at a1
          subst hl
          have hb : b = [] := pt_none hp
          subst hb
          rw [List.append_nil] at a1
          refine ⟨v.2.1, L v.2.2, ?_⟩
          rw [a1, ← hm]; exact hv
        · rw [if_neg hm] at h; cases h
      · rw [if_neg ht] at h; simp at h
  · rw [if_neg hz] at h; simp at h
theorem tok_inv {u : List UInt8} {i : Int} {t : List UInt8} (h : VT u 4 i t) : i = 0 ∧ t = u := by
  generalize hn : (4 : Int) = n at h
  cases h <;> first | exact ⟨rfl, rfl⟩ | (exfalso; revert hn; decide)
theorem byt_inv {u : List UInt8} {i : Int} {t : List UInt8} (h : VT u 5 i t) : i = 0 ∧ u = 58 :: (t ++ [58]) := by
  generalize hn : (5 : Int) = n at h
  cases h <;> first | exact ⟨rfl, rfl⟩ | (exfalso; revert hn; decide)
/-- What a value's text tells is the value. -/
theorem value_back (k : ByteArray) (n i : Int) (t o : ByteArray) (h : sfitem_value.f k n i t = some (o, true)) : VT (L o) n i (L t) := by
  unfold sfitem_value.f at h
  by_cases hz : t.size ≤ 2199023255540
  · rw [if_neg (by omega)] at h
    by_cases hi : i < -999999999999999 ∨ 999999999999999 < i
    · rw [if_pos hi] at h; simp at h
    rw [if_neg hi] at h
    have hi' : -999999999999999 ≤ i ∧ i ≤ 999999999999999 := by omega
    by_cases h1 : n = 1
    · rw [if_pos h1] at h
      have h := Option.some.inj h
      simp only [Prod.mk.injEq] at h
      rw [h1, ← h.1, empty_of h.2]; exact int_back i hi'
    rw [if_neg h1] at h
    by_cases h2 : n = 2
    · rw [if_pos h2] at h
      have h := Option.some.inj h
      simp only [Prod.mk.injEq] at h
      rw [h2, ← h.1, empty_of h.2]; exact dec_back i hi'
    rw [if_neg h2] at h
    by_cases h6 : n = 6
    · rw [if_pos h6] at h
      by_cases ht : (t.toList == ([] : List UInt8)) = true
      · rw [if_pos ht] at h
        have h := Option.some.inj h
        simp only [Prod.mk.injEq] at h
        rw [h6, ← h.1, show L t = [] by rw [L_toList] at ht; simpa using ht]
        rcases flag_of i hi' h.2 with rfl | rfl
        · rw [itoa_0]; exact VT.zero
        · rw [itoa_1]; exact VT.one
      · rw [if_neg ht] at h; simp at h
    rw [if_neg h6] at h
    by_cases h3 : n = 3
    · rw [if_pos h3] at h
      have h := Option.some.inj h
      by_cases hp : Plain (L t)
      · rw [text_plain t i hp] at h
        simp only [Prod.mk.injEq, beq_iff_eq] at h
        rw [h3, ← h.1, h.2, L_B]
        exact VT.quo _ _ (q_esc _ hp)
      · rw [text_bad t i hp] at h; simp at h
    rw [if_neg h3] at h
    by_cases h4 : n = 4
    · rw [if_pos h4] at h
      by_cases h0 : i = 0
      · rw [if_pos h0] at h
        obtain ⟨b, hb, h⟩ := Option.bind_eq_some_iff.1 h
        have h := Option.some.inj h
        simp only [Prod.mk.injEq] at h
        obtain ⟨rfl, rfl⟩ := h
        obtain ⟨i', t', hv⟩ := whole_inv hb
        obtain ⟨rfl, rfl⟩ := tok_inv hv
        rw [h4, h0]; exact hv
      · rw [if_neg h0] at h; simp at h
    rw [if_neg h4] at h
    by_cases h5 : n = 5
    · rw [if_pos h5] at h
      by_cases h0 : i = 0
      · rw [if_pos h0] at h
        obtain ⟨b, hb, h⟩ := Option.bind_eq_some_iff.1 h
        have h := Option.some.inj h
        simp only [Prod.mk.injEq] at h
        obtain ⟨rfl, rfl⟩ := h
        obtain ⟨i', t', hv⟩ := whole_inv hb
        have e : L (((⟨#[58]⟩ : ByteArray) ++ t) ++ (⟨#[58]⟩ : ByteArray)) = 58 :: (L t ++ [58]) := by rw [L_app, L_app]; rfl
        rw [e] at hv ⊢
        obtain ⟨rfl, hu⟩ := byt_inv hv
        have : L t = t' := by simpa using hu
        rw [this] at hv ⊢
        rw [h5, h0]; exact hv
      · rw [if_neg h0] at h; simp at h
    rw [if_neg h5] at h; simp at h
  · rw [if_pos hz] at h; cases h
end Go.Proofs.YtjdbiicjfpgjkaaGreatDoor.Pl
/- Chapter 5: an item is the same as itself; how many parameters a text has. -/
namespace Go.Proofs.YtjdbiicjfpgjkaaGreatDoor.Pl
open Go.RowKit Go.Proofs.YtjdbiicjfpgjkaaGreatDoor.Q Go.Proofs.YtjdbiicjfpgjkaaGreatDoor.Sf Go.Proofs.YtjdbiicjfpgjkaaGreatDoorW.PrintWords Go.Proofs.YtjdbiicjfpgjkaaGreatDoorW.PrintLast
set_option linter.unusedVariables false
set_option linter.unusedSimpArgs false
theorem wrap_next (j : Nat) (h : j ≤ 100000) : wrap64 ((j : Int) + 1) = ((j + 1 : Nat) : Int) := by
  unfold wrap64; omega
theorem same_loop (l : List S60) (hl : l.length ≤ 100000) : ∀ (m j k : Nat), j + m = l.length → m < k → glacisref05_SameParams.l0 k l l (j : Int) = some true
  | 0, j, k, hm, hk => by
    obtain ⟨k, rfl⟩ : ∃ k', k = k' + 1 := ⟨k - 1, by omega⟩
    rw [glacisref05_SameParams.l0, if_neg (by omega)]
  | m + 1, j, k, hm, hk => by
    obtain ⟨k, rfl⟩ : ∃ k', k = k' + 1 := ⟨k - 1, by omega⟩
    rw [glacisref05_SameParams.l0, if_pos (by omega), if_pos (by omega), if_pos (by omega), if_neg (by simp), wrap_next j (by omega)]
    exact same_loop l hl m (j + 1) k (by omega) (by omega)
theorem same_refl (l : List S60) (hl : l.length ≤ 100000) (n i : Int) (t : ByteArray) (k : Nat) (hk : l.length < k) : glacisref05_Same.f k n i t l n i t l = some true := by
  unfold glacisref05_Same.f glacisref05_SameParams.f
  rw [if_pos rfl]
  have := same_loop l hl l.length 0 k (by omega) hk
  rw [show ((0 : Nat) : Int) = 0 from rfl] at this
  rw [this]
  simp only [Option.bind_some]
  rw [if_pos trivial, if_pos trivial, if_pos trivial]
  simp
theorem pt_count {u : List UInt8} {l l1 : List S60} (h : PT u l l1) : l1.length ≤ l.length + u.length := by
  induction h with
  | nil => simp
  | flag b k u l l1 hb hk h ih =>
    have := withP_len (B k) l ⟨B k, 6, 1, ⟨#[]⟩⟩
    simp only [List.length_cons, List.length_append]; omega
  | val b k w u n i t l l1 hb hk hv h ih =>
    have := withP_len (B k) l ⟨B k, n, i, B t⟩
    simp only [List.length_cons, List.length_append]; omega
theorem it_count {u : List UInt8} {n i : Int} {t : List UInt8} {l : List S60} (h : IT u n i t l) : l.length ≤ u.length := by
  obtain ⟨a, b, rfl, hv, hp⟩ := h
  have := pt_count hp
  simp at this ⊢; omega
end Go.Proofs.YtjdbiicjfpgjkaaGreatDoor.Pl
/- Chapter 5: parameters' text, there and back. -/
namespace Go.Proofs.YtjdbiicjfpgjkaaGreatDoor.Pl
open Go.RowKit Go.Proofs.YtjdbiicjfpgjkaaGreatDoor.Q Go.Proofs.YtjdbiicjfpgjkaaGreatDoor.Sf Go.Proofs.YtjdbiicjfpgjkaaGreatDoorW.PrintWords Go.Proofs.YtjdbiicjfpgjkaaGreatDoorW.PrintLast
set_option linter.unusedVariables false
set_option linter.unusedSimpArgs false
theorem s38_ext {p : S60} {a : ByteArray} {b c : Int} {d : ByteArray} (h0 : p.f0 = a) (h1 : p.f1 = b) (h2 : p.f2 = c) (h3 : p.f3 = d) : p = ⟨a, b, c, d⟩ := by
  obtain ⟨x, y, z, u⟩ := p; simp only at h0 h1 h2 h3; subst h0 h1 h2 h3; rfl
theorem rd_at5 (l : List S60) (j : Nat) (h : j < l.length) : rd_T60 l (j : Int) = l[j] := by
  unfold rd_T60; simp [List.getD_eq_getElem?_getD, h]
theorem with_new (k : ByteArray) (l : List S60) (p : S60) (h : ∀ q ∈ l, q.f0 ≠ k) : withP k l p = l ++ [p] := by
  refine withP_none k l p fun j hj => ?_
  rw [rd_at5 l j hj]; exact h _ (List.getElem_mem hj)
theorem flag_inv {u : List UInt8} {i : Int} {t : List UInt8} (h : VT u 6 i t) (hi : i ≠ 0) : i = 1 ∧ t = [] := by
  generalize hn : (6 : Int) = n at h
  cases h <;> first | exact ⟨rfl, rfl⟩ | exact absurd rfl hi | (exfalso; revert hn; decide)
theorem inL_iff (s : ByteArray) (seen : List ByteArray) : inL s seen = true ↔ s ∈ seen := by
  unfold inL
  rw [List.any_eq_true]
  constructor
  · rintro ⟨y, hy, e⟩; rw [← of_decide_eq_true e]; exact hy
  · intro h; exact ⟨s, h, by simp⟩
theorem key_all {k : ByteArray} (h1 : (keyF k).2.2 = 0) (h2 : (keyF k).2.1.toList = []) : KT (L k) := by
  unfold keyF at h1 h2
  cases hk : rdKey k with
  | none => rw [hk] at h1; simp at h1
  | some x =>
    obtain ⟨a, t⟩ := x
    rw [hk] at h2
    simp only [] at h2
    obtain ⟨b1, b2⟩ := key_inv hk
    rw [L_toList] at h2
    rw [h2, List.append_nil] at b1
    rw [b1]; exact b2
theorem key_ok {k : ByteArray} (h : KT (L k)) : (keyF k).2.2 = 0 ∧ (keyF k).2.1.toList = [] := by
  have := key_read (L k) [] h (fun c r' e => by cases e) k (by simp)
  unfold keyF
  rw [this]
  exact ⟨rfl, by rw [L_toList, L_B]⟩
theorem bad_not {p : S60} {b : Bool} {seen : List ByteArray} (h : badP p b seen = false) : KT (L p.f0) ∧ b = true ∧ p.f0 ∉ seen := by
  unfold badP at h
  simp only [Bool.or_eq_false_iff, bne_eq_false_iff_eq, Bool.not_eq_false'] at h
  refine ⟨key_all h.1 h.2.1, h.2.2.1, fun k => ?_⟩
  rw [(inL_iff _ _).2 k] at h
  exact absurd h.2.2.2 (by decide)
theorem bad_of {p : S60} {b : Bool} {seen : List ByteArray} (h1 : KT (L p.f0)) (h2 : b = true) (h3 : p.f0 ∉ seen) : badP p b seen = false := by
  have k := key_ok h1
  have : inL p.f0 seen = false := by
    cases e : inL p.f0 seen with
    | false => rfl
    | true => exact absurd ((inL_iff _ _).1 e) h3
  unfold badP
  rw [k.1, k.2, h2, this]; rfl
theorem part_L (p : S60) (o v : ByteArray) : L (partT p o v) = L o ++ (if p.f1 ≠ 6 ∨ p.f2 = 0 then 59 :: (L p.f0 ++ (61 :: L v)) else 59 :: L p.f0) := by
  unfold partT
  split
  · rw [L_app, L_app, L_app, L_app]
    show (L o ++ ([59] ++ L p.f0)) ++ ([61] ++ L v) = _
    simp
  · rw [L_app, L_app]
    show L o ++ ([59] ++ L p.f0) = _
    simp
/-- What parameters' text tells is the parameters. -/
theorem tail_back : ∀ (ps : List S60) (seen : List ByteArray) (o o' : ByteArray) (l0 : List S60), tailF ps seen o = some (o', 0) → (∀ q ∈ l0, q.f0 ∈ seen) → ∃ u, L o' = L o ++ u ∧ PT u l0 (l0 ++ ps)
  | [], seen, o, o', l0, h, hs => by
    rw [tailF] at h
    have h := Option.some.inj h
    simp only [Prod.mk.injEq] at h
    exact ⟨[], by rw [h.1]; simp, by rw [List.append_nil]; exact PT.nil l0⟩
  | p :: ps, seen, o, o', l0, h, hs => by
    rw [tailF] at h
    obtain ⟨⟨v, b⟩, hv, h⟩ := Option.bind_eq_some_iff.1 h
    simp only [] at h
    by_cases hz : p.f0.size ≤ 2199023255552 ∧ o.size ≤ 1152921504606846976 ∧ v.size ≤ 1152921504606846976
    · rw [if_neg (by simpa using hz)] at h
      cases hb : badP p b seen with
      | true => rw [hb, if_pos rfl] at h; simp at h
      | false =>
        rw [hb, if_neg (by decide)] at h
        obtain ⟨b1, b2, b3⟩ := bad_not hb
        subst b2
        have hnew : ∀ q ∈ l0, q.f0 ≠ p.f0 := fun q hq e => b3 (e ▸ hs q hq)
        have ih := tail_back ps (p.f0 :: seen) (partT p o v) o' (l0 ++ [p]) h (by
          intro q hq
          rcases List.mem_append.1 hq with hq | hq
          · exact List.mem_cons_of_mem _ (hs q hq)
          · rw [List.mem_singleton.1 hq]; exact List.mem_cons_self ..)
        obtain ⟨u, hu, hp⟩ := ih
        rw [part_L] at hu
        rw [List.append_assoc, List.singleton_append] at hp
        have hvt := value_back p.f0 p.f1 p.f2 p.f3 v hv
        by_cases hf : p.f1 ≠ 6 ∨ p.f2 = 0
        · rw [if_pos hf] at hu
          have ew : withP (B (L p.f0)) l0 ⟨B (L p.f0), p.f1, p.f2, B (L p.f3)⟩ = l0 ++ [p] := by
            rw [B_L, B_L]; exact with_new _ _ _ hnew
          have := PT.val [] (L p.f0) (L v) u p.f1 p.f2 (L p.f3) l0 (l0 ++ p :: ps) (fun c hc => by cases hc) b1 hvt (by rw [ew]; exact hp)
          exact ⟨_, by rw [hu]; simp, this⟩
        · rw [if_neg hf] at hu
          have h6 : p.f1 = 6 := Classical.byContradiction fun k => hf (Or.inl k)
          rw [h6] at hvt
          obtain ⟨e1, e2⟩ := flag_inv hvt (fun k => hf (Or.inr k))
          have ep : p = ⟨p.f0, 6, 1, ⟨#[]⟩⟩ := s38_ext rfl h6 e1 (eq_nil e2)
          have ew : withP (B (L p.f0)) l0 ⟨B (L p.f0), 6, 1, ⟨#[]⟩⟩ = l0 ++ [p] := by
            rw [B_L, ← ep]; exact with_new _ _ _ hnew
          have := PT.flag [] (L p.f0) u l0 (l0 ++ p :: ps) (fun c hc => by cases hc) b1 (by rw [ew]; exact hp)
          exact ⟨_, by rw [hu]; simp, this⟩
    · exact absurd h (by rw [if_pos (by simpa using hz)]; simp)
end Go.Proofs.YtjdbiicjfpgjkaaGreatDoor.Pl
/- Chapter 5: what the document's own reader gives is what the program's reader gives. -/
namespace Go.Proofs.YtjdbiicjfpgjkaaGreatDoor.Pl
open Go.RowKit Go.Proofs.YtjdbiicjfpgjkaaGreatDoor.Q Go.Proofs.YtjdbiicjfpgjkaaGreatDoor.Sf Go.Proofs.YtjdbiicjfpgjkaaGreatDoorW.PrintWords Go.Proofs.YtjdbiicjfpgjkaaGreatDoorW.PrintLast
set_option linter.unusedVariables false
set_option linter.unusedSimpArgs false
theorem up {α : Type} {f : Nat → Option α} (hm : ∀ k, LeO (f k) (f (k + 1))) {k0 : Nat} {r : α} (h : f k0 = some r) : ∀ k, k0 ≤ k → f k = some r := by
  intro k hk
  induction k with
  | zero => obtain rfl : k0 = 0 := by omega
            exact h
  | succ k ih =>
    rcases Nat.lt_or_ge k k0 with c | c
    · obtain rfl : k0 = k + 1 := by omega
      exact h
    · exact hm k r (ih c)
theorem bt_u (s : ByteArray) (j : Nat) (h : j < s.size) : ∃ c : UInt8, bt s (j : Int) = (c.toNat : Int) := by
  have hl : j < s.data.toList.length := by rw [← Lib.size_eq]; exact h
  exact ⟨_, bt_list s j hl⟩
theorem letter_u (c : UInt8) : glacisref01_Letter.f c.toNat = some (leP c.toNat) :=
  of_decide_eq_true (allU (fun c : UInt8 => decide (glacisref01_Letter.f c.toNat = some (leP c.toNat))) (by decide +kernel) c)
theorem digit_u (c : UInt8) : glacisref01_Digit.f c.toNat = some (dgP c.toNat) :=
  of_decide_eq_true (allU (fun c : UInt8 => decide (glacisref01_Digit.f c.toNat = some (dgP c.toNat))) (by decide +kernel) c)
theorem base_u (c : UInt8) : glacisref05_base.f c.toNat = some (baP c.toNat) :=
  of_decide_eq_true (allU (fun c : UInt8 => decide (glacisref05_base.f c.toNat = some (baP c.toNat))) (by decide +kernel) c)
theorem tokens_u (c : UInt8) (k : Nat) (hk : 16 ≤ k) : glacisref05_tokens.f k c.toNat = some (tokP c.toNat) := by
  have h := of_decide_eq_true (allU (fun c : UInt8 => decide (glacisref05_tokens.f 16 c.toNat = some (tokP c.toNat))) (by decide +kernel) c)
  exact up (f := fun k => glacisref05_tokens.f k c.toNat) (fun k => glacisref05_tokens.mono _ k) h k hk
theorem small_u (c : UInt8) : glacisref05_small.f c.toNat true = some (smP c.toNat || decide ((c.toNat : Int) = 42)) :=
  of_decide_eq_true (allU (fun c : UInt8 => decide (glacisref05_small.f c.toNat true = some (smP c.toNat || decide ((c.toNat : Int) = 42)))) (by decide +kernel) c)
theorem small_v (c : UInt8) : glacisref05_small.f c.toNat false = some (keP c.toNat) :=
  of_decide_eq_true (allU (fun c : UInt8 => decide (glacisref05_small.f c.toNat false = some (keP c.toNat))) (by decide +kernel) c)
theorem L_ext (s : ByteArray) (a : Nat) : L (s.extract a s.size) = (L s).drop a := by
  unfold L
  rw [Lib.extract_data, Lib.size_eq, List.take_of_length_le (by simp)]
theorem L_ext0 (s : ByteArray) (a : Nat) : L (s.extract 0 a) = (L s).take a := by
  unfold L
  rw [Lib.extract_data]; simp
theorem L_extm (s : ByteArray) (a b : Nat) : L (s.extract a b) = ((L s).drop a).take (b - a) := by
  unfold L
  rw [Lib.extract_data]
theorem bt_L (s : ByteArray) (j : Nat) (h : j < (L s).length) : bt s (j : Int) = ((L s)[j].toNat : Int) := bt_list s j h
theorem drop_cons (l : List UInt8) (n : Nat) (h : n < l.length) : l.drop n = l[n] :: l.drop (n + 1) := List.drop_eq_getElem_cons h
theorem atF_ext (s : ByteArray) (n : Nat) (c : Int) : atF (s.extract n s.size) c = decide (n < s.size ∧ bt s (n : Int) = c) := by
  by_cases h : n < s.size
  · have hl : n < (L s).length := by rw [← size_L]; exact h
    have e : L (s.extract n s.size) = (L s)[n] :: (L s).drop (n + 1) := by rw [L_ext, drop_cons _ _ hl]
    rw [atF_cons e, bt_L s n hl]
    simp [h]
  · have e : L (s.extract n s.size) = [] := by rw [L_ext]; exact List.drop_eq_nil_of_le (by rw [← size_L]; omega)
    rw [atF_nil e]
    simp [h]
theorem tl_ext (s : ByteArray) (n : Nat) : tl (s.extract n s.size) = s.extract (n + 1) s.size := by
  apply L_inj
  rw [L_tl, L_ext, L_ext]; simp
theorem drp_is (p : Int → Bool) (s : ByteArray) : drpB p s = s.extract (spanB p s) s.size := rfl
theorem tl_is (s : ByteArray) : tl s = s.extract 1 s.size := rfl
theorem bt_tl (s : ByteArray) (j : Nat) (h : j + 1 < s.size) : bt (tl s) (j : Int) = bt s ((j + 1 : Nat) : Int) := by
  have h1 : j + 1 < (L s).length := by rw [← size_L]; exact h
  have h2 : j < (L (tl s)).length := by rw [L_tl, List.length_tail]; omega
  rw [bt_L _ _ h2, bt_L _ _ h1]
  have : (L (tl s))[j] = (L s)[j + 1] := by simp [L_tl]
  rw [this]
theorem size_tl (s : ByteArray) : (tl s).size = s.size - 1 := by unfold tl; rw [ByteArray.size_extract]; omega
theorem digits_l (s : ByteArray) (hs : s.size ≤ 100000) : ∀ (m x k : Nat), x + m = s.size → m < k → (∀ j : Nat, j < x → dgP (bt s j) = true) → glacisref05_digits.l0 k s (x : Int) = some (spanB dgP s : Int)
  | 0, x, k, hm, hk, hj => by
    obtain ⟨k, rfl⟩ : ∃ k', k = k' + 1 := ⟨k - 1, by omega⟩
    rw [glacisref05_digits.l0, if_neg (by omega), span_eq dgP s x (by omega) hj (fun h => by omega)]
  | m + 1, x, k, hm, hk, hj => by
    obtain ⟨k, rfl⟩ : ∃ k', k = k' + 1 := ⟨k - 1, by omega⟩
    obtain ⟨c, hc⟩ := bt_u s x (by omega)
    rw [glacisref05_digits.l0, if_pos (by omega), if_pos (by omega), hc, digit_u]
    simp only [Option.bind_some]
    by_cases hd : dgP c.toNat = true
    · rw [if_pos hd, wrap_next x (by omega)]
      refine digits_l s hs m (x + 1) k (by omega) (by omega) (fun j hjx => ?_)
      by_cases e : j = x
      · subst e; rw [hc]; exact hd
      · exact hj j (by omega)
    · rw [if_neg hd, span_eq dgP s x (by omega) hj (fun _ => by rw [hc]; exact Bool.eq_false_iff.mpr hd)]
theorem digits_f (s : ByteArray) (hs : s.size ≤ 100000) (k : Nat) (hk : s.size < k) : glacisref05_digits.f k s = some (spanB dgP s : Int) := by
  unfold glacisref05_digits.f
  exact digits_l s hs s.size 0 k (by omega) hk (fun j hj => by omega)
theorem numL_snoc (l : List UInt8) (c : UInt8) : numL (l ++ [c]) = numL l * 10 + (c.toNat - 48) := by unfold numL; rw [List.foldl_append]; rfl
theorem wrap_id (x : Int) (h : -9000000000000000000 ≤ x ∧ x ≤ 9000000000000000000) : wrap64 x = x := by unfold wrap64; omega
theorem lt_p15 {x n : Nat} (h : x < 10 ^ n) (hn : n ≤ 15) : x < 1000000000000000 := Nat.lt_of_lt_of_le h (Nat.le_trans (Nat.pow_le_pow_right (by decide) hn) (by decide))
theorem told_l (s : ByteArray) (hs : s.size ≤ 15) (hd : ∀ c ∈ L s, dgU c = true) : ∀ (m x k : Nat), x + m = s.size → m < k → glacisref05_told.l0 k s (numL ((L s).take x) : Int) (x : Int) = some (numL (L s) : Int)
  | 0, x, k, hm, hk => by
    obtain ⟨k, rfl⟩ : ∃ k', k = k' + 1 := ⟨k - 1, by omega⟩
    rw [glacisref05_told.l0, if_neg (by omega), List.take_of_length_le (by rw [← size_L]; omega)]
  | m + 1, x, k, hm, hk => by
    obtain ⟨k, rfl⟩ : ∃ k', k = k' + 1 := ⟨k - 1, by omega⟩
    have hx : x < (L s).length := by rw [← size_L]; omega
    have hc := hd _ (List.getElem_mem hx)
    have hc2 := dg_ne hc
    have e : numL ((L s).take (x + 1)) = numL ((L s).take x) * 10 + ((L s)[x].toNat - 48) := by rw [take_snoc _ _ hx, numL_snoc]
    have hb : numL ((L s).take (x + 1)) < 1000000000000000 := lt_p15 (numL_bound ((L s).take (x + 1)) (fun c hc => hd c (List.mem_of_mem_take hc))) (by rw [List.length_take, ← size_L]; omega)
    rw [glacisref05_told.l0, if_pos (by omega), if_pos (by omega), bt_L s x hx, wrap_next x (by omega)]
    obtain ⟨d, hd48⟩ : ∃ d : Nat, (L s)[x].toNat = 48 + d := ⟨(L s)[x].toNat - 48, by omega⟩
    have hd9 : d ≤ 9 := by omega
    rw [hd48, Nat.add_sub_cancel_left] at e
    rw [e] at hb
    have m1 : ((((L s)[x].toNat : Int) - 48) % 256) = (d : Int) := by rw [hd48]; omega
    generalize numL ((L s).take x) = a at *
    have m2 : wrap64 (10 * (a : Int)) = 10 * (a : Int) := wrap_id _ (by omega)
    have m3 : wrap64 (10 * (a : Int) + (d : Int)) = 10 * (a : Int) + (d : Int) := wrap_id _ (by omega)
    have e2 : wrap64 ((wrap64 (10 * (a : Int))) + ((((L s)[x].toNat : Int) - 48) % 256)) = (numL ((L s).take (x + 1)) : Int) := by
      rw [m1, m2, m3, e]; omega
    rw [e2]
    exact told_l s hs hd m (x + 1) k (by omega) (by omega)
theorem told_f (s : ByteArray) (hs : s.size ≤ 15) (hd : ∀ c ∈ L s, dgU c = true) (k : Nat) (hk : 16 ≤ k) : glacisref05_told.f k s = some (numL (L s) : Int) := by
  unfold glacisref05_told.f
  have := told_l s hs hd s.size 0 k (by omega) (by omega)
  simpa [numL] using this
/-- The document's answer, of a value that is read. -/
def refV (o : Option ((Int × Int × ByteArray) × ByteArray)) : ByteArray × Int × Int × ByteArray × ByteArray × Bool := match o with | some (v, t) => (⟨#[]⟩, v.1, v.2.1, v.2.2, t, true) | none => (⟨#[]⟩, 0, 0, ⟨#[]⟩, ⟨#[]⟩, false)
theorem refV_some (v : Int × Int × ByteArray) (t : ByteArray) : refV (some (v, t)) = (⟨#[]⟩, v.1, v.2.1, v.2.2, t, true) := rfl
def rdN (sg : Int) (s1 : ByteArray) : Option ((Int × Int × ByteArray) × ByteArray) :=
  if (takB dgP s1).size = 0 then none
    else if atF (drpB dgP s1) 46 = true then
      (if (takB dgP s1).size > 12 ∨ (takB dgP (tl (drpB dgP s1))).size = 0 ∨ (takB dgP (tl (drpB dgP s1))).size > 3 then none
      else some ((2, sg * (numV (takB dgP s1 ++ (takB dgP (tl (drpB dgP s1)) ++ zer (takB dgP (tl (drpB dgP s1))).size)) : Int), ⟨#[]⟩), drpB dgP (tl (drpB dgP s1))))
    else if (takB dgP s1).size > 15 then none else some ((1, sg * (numV (takB dgP s1) : Int), ⟨#[]⟩), drpB dgP s1)
theorem rdN_eq (s : ByteArray) : rdNumber s = rdN (sgn s) (atR s 45) := rdNumber_eq s
theorem number_j0 (s : ByteArray) (hs : s.size ≤ 100000) (sg : Int) (hsg : sg = 1 ∨ sg = -1) (k : Nat) (hk : s.size + 30 < k) : glacisref05_number.j0 k s sg = some (refV (rdN sg s)) := by
  obtain ⟨k, rfl⟩ : ∃ k', k = k' + 10 := ⟨k - 10, by omega⟩
  have hn := span_le dgP s
  have hall : ∀ c ∈ L (takB dgP s), dgU c = true := tak_all dgP s
  rw [glacisref05_number.j0, digits_f s hs _ (by omega)]
  simp only [Option.bind_some]
  unfold rdN
  rw [drp_is dgP s, tl_ext, atF_ext]
  have et : takB dgP s = s.extract 0 (spanB dgP s) := rfl
  rw [tak_size]
  by_cases h0 : spanB dgP s = 0
  · rw [if_pos (by omega), if_pos h0, glacisref05_number.j1, if_pos rfl]; rfl
  rw [if_neg (by omega), if_neg h0, glacisref05_number.j1]
  by_cases h15 : (spanB dgP s : Int) > 15
  · rw [decide_eq_true h15, if_pos rfl]
    by_cases h46 : spanB dgP s < s.size ∧ bt s (spanB dgP s) = 46
    · rw [decide_eq_true h46, if_pos rfl, if_pos (by omega)]; rfl
    · rw [decide_eq_false h46, if_neg (by decide), if_pos (by omega)]; rfl
  rw [decide_eq_false h15, if_neg (by decide)]
  have hint : glacisref05_number.j2 (k + 8) s sg (spanB dgP s) true = some (refV (some ((1, sg * (numV (takB dgP s) : Int), ⟨#[]⟩), s.extract (spanB dgP s) s.size))) := by
    have hz : (takB dgP s).size ≤ 15 := by rw [tak_size]; omega
    have hb := lt_p15 (numL_bound (L (takB dgP s)) hall) (by rw [← size_L]; exact hz)
    rw [glacisref05_number.j2, if_pos rfl, if_pos (by omega), if_pos (by omega)]
    have e1 : s.extract 0 ((spanB dgP s : Int)).toNat = takB dgP s := rfl
    rw [e1, told_f _ hz hall _ (by omega)]
    simp only [Option.bind_some]
    rw [wrap_id _ (by rcases hsg with rfl | rfl <;> omega), numV_L, refV_some]
    rfl
  by_cases h46 : spanB dgP s < s.size ∧ bt s (spanB dgP s) = 46
  · rw [decide_eq_true h46, if_pos (show true = true from rfl)]
    rw [if_neg (by omega), if_pos (by omega), if_pos (by omega), h46.2]
    have hw : wrap64 ((spanB dgP s : Int) + 1) = ((spanB dgP s + 1 : Nat) : Int) := wrap_next _ (by omega)
    rw [show ((46 : Int) != 46) = false from rfl, glacisref05_number.j2, if_neg (by decide), hw, if_pos (by omega), if_pos (by omega)]
    have e2 : s.extract (((spanB dgP s + 1 : Nat) : Int)).toNat s.size = s.extract (spanB dgP s + 1) s.size := rfl
    rw [e2]
    have hz2 : (s.extract (spanB dgP s + 1) s.size).size ≤ s.size := by rw [ByteArray.size_extract]; omega
    rw [digits_f _ (by omega) _ (by omega)]
    simp only [Option.bind_some]
    generalize hP : s.extract (spanB dgP s + 1) s.size = P at *
    have hPL : L P = (L s).drop (spanB dgP s + 1) := by rw [← hP, L_ext]
    have hPs : P.size = s.size - (spanB dgP s + 1) := by rw [← hP, ByteArray.size_extract]; omega
    have hm := span_le dgP P
    have hall2 : ∀ c ∈ L (takB dgP P), dgU c = true := tak_all dgP P
    rw [tak_size]
    by_cases hbad : spanB dgP s > 12 ∨ spanB dgP P = 0 ∨ spanB dgP P > 3
    · rw [if_pos hbad]
      have hj : ∀ b : Bool, b = true → glacisref05_number.j3 (k + 7) s sg (spanB dgP s) (spanB dgP P) b = some (refV none) := by
        intro b hb
        rw [glacisref05_number.j3, if_pos hb]; rfl
      by_cases b1 : (spanB dgP s : Int) > 12
      · rw [if_pos b1]; exact hj true rfl
      rw [if_neg b1]
      by_cases b2 : (spanB dgP P : Int) < 1
      · rw [if_pos b2]; exact hj true rfl
      rw [if_neg b2]
      exact hj _ (decide_eq_true (by omega))
    · rw [if_neg hbad, if_neg (by omega), if_neg (by omega), decide_eq_false (by omega), glacisref05_number.j3, if_neg (by decide), if_pos (by omega), if_pos (by omega), hw, if_pos (by omega)]
      have hw2 : wrap64 (((spanB dgP s + 1 : Nat) : Int) + (spanB dgP P : Int)) = ((spanB dgP s + 1 + spanB dgP P : Nat) : Int) := by unfold wrap64; omega
      rw [hw2, if_pos (by omega), if_pos (by omega)]
      have e3 : s.extract 0 ((spanB dgP s : Int)).toNat = takB dgP s := rfl
      have e4 : s.extract (((spanB dgP s + 1 : Nat) : Int)).toNat (((spanB dgP s + 1 + spanB dgP P : Nat) : Int)).toNat = takB dgP P := by
        apply L_inj
        rw [L_extm]
        have : L (takB dgP P) = (L P).take (spanB dgP P) := L_ext0 P _
        rw [this, hPL]
        congr 1
        omega
      rw [e3, e4]
      have z1 := tak_size dgP s
      have z2 := tak_size dgP P
      rw [if_pos (by omega)]
      have hz : (takB dgP s ++ takB dgP P).size ≤ 15 := by rw [ByteArray.size_append]; omega
      have hall3 : ∀ c ∈ L (takB dgP s ++ takB dgP P), dgU c = true := by
        rw [L_app]; intro c hc
        rcases List.mem_append.1 hc with hc | hc
        · exact hall c hc
        · exact hall2 c hc
      rw [told_f _ hz hall3 _ (by omega)]
      simp only [Option.bind_some]
      have hb := numL_bound (L (takB dgP s ++ takB dgP P)) hall3
      have hlen : (L (takB dgP s ++ takB dgP P)).length = spanB dgP s + spanB dgP P := by rw [← size_L, ByteArray.size_append]; omega
      have hval : numV (takB dgP s ++ (takB dgP P ++ zer (spanB dgP P))) = numL (L (takB dgP s ++ takB dgP P)) * 10 ^ (3 - spanB dgP P) := by
        have eqa : takB dgP s ++ (takB dgP P ++ zer (spanB dgP P)) = (takB dgP s ++ takB dgP P) ++ zer (spanB dgP P) := L_inj (by simp only [L_app, List.append_assoc])
        rw [eqa, numV_L, L_app, zer_L, numL_app]
        have hzl : (zerL (spanB dgP P)).length = 3 - spanB dgP P := zer_len _ (by omega)
        have hz0 : numL (zerL (spanB dgP P)) = 0 := by
          rcases (show spanB dgP P = 1 ∨ spanB dgP P = 2 ∨ spanB dgP P = 3 by omega) with e | e | e <;> rw [e] <;> rfl
        rw [hzl, hz0, Nat.add_zero]
      rw [hval, refV_some]
      have hrest : drpB dgP P = s.extract (spanB dgP s + 1 + spanB dgP P) s.size := by
        apply L_inj
        have : L (drpB dgP P) = (L P).drop (spanB dgP P) := L_ext P _
        rw [this, hPL, L_ext, List.drop_drop]
      rw [hrest]
      generalize numL (L (takB dgP s ++ takB dgP P)) = X at *
      have hX : X < 10 ^ (spanB dgP s + spanB dgP P) := by rw [← hlen]; exact hb
      have hlast : ∀ (k' : Nat) (Y : Int), glacisref05_number.l0 (k' + 1) s sg (spanB dgP s) (spanB dgP P) Y 3 = some (⟨#[]⟩, 2, wrap64 (sg * Y), ⟨#[]⟩, s.extract (spanB dgP s + 1 + spanB dgP P) s.size, true) := by
        intro k' Y
        rw [glacisref05_number.l0, if_neg (by decide), hw, hw2, if_pos (by omega), if_pos (by omega)]
        rfl
      have hle : X < 10 ^ 12 * 10 ^ spanB dgP P := by
        rw [← Nat.pow_add]
        exact Nat.lt_of_lt_of_le hX (Nat.pow_le_pow_right (by omega) (by omega))
      rcases (show spanB dgP P = 1 ∨ spanB dgP P = 2 ∨ spanB dgP P = 3 by omega) with e | e | e
      · rw [e] at hlast hle ⊢
        rw [show k + 6 = (k + 5) + 1 from rfl, show (((1 : Nat)) : Int) = 1 from rfl] at *
        rw [glacisref05_number.l0, if_pos (by decide), wrap_id (10 * (X : Int)) (by omega), show wrap64 ((1 : Int) + 1) = 2 from wrap_id _ (by omega), glacisref05_number.l0, if_pos (by decide), wrap_id (10 * (10 * (X : Int))) (by omega), show wrap64 ((2 : Int) + 1) = 3 from wrap_id _ (by omega), hlast]
        rw [wrap_id _ (by rcases hsg with rfl | rfl <;> omega)]
        congr 3
        rw [show (3 - 1 : Nat) = 2 from rfl]
        push_cast
        rcases hsg with rfl | rfl <;> simp <;> omega
      · rw [e] at hlast hle ⊢
        rw [show k + 6 = (k + 5) + 1 from rfl, show (((2 : Nat)) : Int) = 2 from rfl] at *
        rw [glacisref05_number.l0, if_pos (by decide), wrap_id (10 * (X : Int)) (by omega), show wrap64 ((2 : Int) + 1) = 3 from wrap_id _ (by omega), hlast]
        rw [wrap_id _ (by rcases hsg with rfl | rfl <;> omega)]
        congr 3
        rw [show (3 - 2 : Nat) = 1 from rfl]
        push_cast
        rcases hsg with rfl | rfl <;> simp <;> omega
      · rw [e] at hlast hle ⊢
        rw [show k + 6 = (k + 5) + 1 from rfl, show (((3 : Nat)) : Int) = 3 from rfl] at *
        rw [hlast]
        rw [wrap_id _ (by rcases hsg with rfl | rfl <;> omega)]
        congr 3
        rw [show (3 - 3 : Nat) = 0 from rfl]
        simp
  · rw [decide_eq_false h46, if_neg (show ¬ (false = true) by decide), if_neg (show ¬ (spanB dgP s > 15) by omega)]
    by_cases he : (spanB dgP s : Int) = (s.size : Int)
    · rw [if_pos he]; exact hint
    · rw [if_neg he, if_pos (by omega), if_pos (by omega)]
      have : (bt s (spanB dgP s) != 46) = true := by
        rw [bne_iff_ne]; intro e; exact h46 ⟨by omega, e⟩
      rw [this]; exact hint
theorem number_f (s : ByteArray) (hs : s.size ≤ 100000) (h0 : 0 < s.size) (k : Nat) (hk : s.size + 30 < k) : glacisref05_number.f k s = some (refV (rdNumber s)) := by
  unfold glacisref05_number.f
  rw [if_pos (by omega), rdN_eq]
  unfold sgn atR atF
  by_cases h : bt s 0 = 45
  · rw [if_pos h, if_pos (by omega), decide_eq_true (show 0 < s.size ∧ bt s 0 = 45 from ⟨h0, h⟩), if_pos rfl, if_pos rfl]
    have hz := tl_size s
    exact number_j0 (tl s) (by omega) (-1) (Or.inr rfl) k (by omega)
  · rw [if_neg h, decide_eq_false (show ¬ (0 < s.size ∧ bt s 0 = 45) from fun e => h e.2), if_neg (by decide), if_neg (by decide)]
    exact number_j0 s hs 1 (Or.inl rfl) k hk
end Go.Proofs.YtjdbiicjfpgjkaaGreatDoor.Pl
/- Chapter 5: the document's own reader: texts in quotes, values, keys, parameters, items. -/
namespace Go.Proofs.YtjdbiicjfpgjkaaGreatDoor.Pl
open Go.RowKit Go.Proofs.YtjdbiicjfpgjkaaGreatDoor.Q Go.Proofs.YtjdbiicjfpgjkaaGreatDoor.Sf Go.Proofs.YtjdbiicjfpgjkaaGreatDoorW.PrintWords Go.Proofs.YtjdbiicjfpgjkaaGreatDoorW.PrintLast
set_option linter.unusedVariables false
set_option linter.unusedSimpArgs false
theorem nums_snoc (xs : List Int) (s : ByteArray) (i : Nat) (h : i < s.size) : strOfNums (xs ++ [bt s i]) = strOfNums xs ++ s.extract i (i + 1) := by
  have hl : i < (L s).length := by rw [← size_L]; exact h
  apply L_inj
  rw [bt_L s i hl, num_app xs _ _ rfl, L_app, L_extm, drop_cons _ _ hl]
  rw [show i + 1 - i = 1 by omega]; rfl
theorem ext_size (s : ByteArray) (i : Nat) (h : i < s.size) : (s.extract i (i + 1)).size = 1 := by rw [ByteArray.size_extract]; omega
theorem fits (a b : Nat) (ha : a ≤ 100000) (hb : b = 1) : a + b ≤ 9223372036854775807 := by omega
theorem qF_shut (d : Nat) (s : ByteArray) (xs : List Int) (h0 : 0 < s.size) (h : bt s 0 = 34) : qF (d + 1) s xs = some (strOfNums xs, tl s) := by
  rw [qF, if_pos h0, if_pos h]
theorem qF_nil (d : Nat) (s : ByteArray) (xs : List Int) (h0 : ¬ 0 < s.size) : qF (d + 1) s xs = none := by
  rw [qF, if_neg h0]
theorem qF_bad (d : Nat) (s : ByteArray) (xs : List Int) (h0 : 0 < s.size) (h : bt s 0 ≠ 34) (hb : bt s 0 < 32 ∨ 126 < bt s 0) : qF (d + 1) s xs = none := by
  rw [qF, if_pos h0, if_neg h, if_pos (by rcases hb with h | h; exact Or.inl h; exact Or.inr (Or.inl h))]
theorem wi_of {c : UInt8} (h : (c.toNat : Int) = 34 ∨ (c.toNat : Int) = 92) : wiP c.toNat ⟨#[34, 92]⟩ = true := by
  rw [wiQ]; exact decide_eq_true (by omega)
theorem wi_not {c : UInt8} (h : ¬ ((c.toNat : Int) = 34 ∨ (c.toNat : Int) = 92)) : ¬ wiP c.toNat ⟨#[34, 92]⟩ = true := by
  rw [wiQ]; intro e; have := of_decide_eq_true e; omega
theorem qF_esc (d : Nat) (s : ByteArray) (xs : List Int) (h0 : 0 < s.size) (h : bt s 0 = 92) (h1 : 0 < (tl s).size) (hq : bt (tl s) 0 = 34 ∨ bt (tl s) 0 = 92) : qF (d + 1) s xs = qF d (tl (tl s)) (xs ++ [bt (tl s) 0]) := by
  obtain ⟨c, hc⟩ := bt_u (tl s) 0 h1
  have hc' : bt (tl s) 0 = (c.toNat : Int) := hc
  rw [hc'] at hq
  have hw := wi_of hq
  rw [← hc'] at hw
  rw [qF, if_pos h0, if_neg (by rw [h]; decide), if_neg (by
    rintro (k | k | ⟨_, k⟩)
    · rw [h] at k; exact absurd k (by decide)
    · rw [h] at k; exact absurd k (by decide)
    · exact k ⟨h1, hw⟩), if_pos h]
theorem qF_escbad (d : Nat) (s : ByteArray) (xs : List Int) (h0 : 0 < s.size) (h : bt s 0 = 92) (hq : ¬ (0 < (tl s).size ∧ (bt (tl s) 0 = 34 ∨ bt (tl s) 0 = 92))) : qF (d + 1) s xs = none := by
  rw [qF, if_pos h0, if_neg (by rw [h]; decide), if_pos (by
    refine Or.inr (Or.inr ⟨h, fun k => ?_⟩)
    obtain ⟨c, hc⟩ := bt_u (tl s) 0 k.1
    have hc' : bt (tl s) 0 = (c.toNat : Int) := hc
    have k2 := k.2
    rw [hc'] at hq k2
    exact wi_not (fun e => hq ⟨k.1, e⟩) k2)]
theorem qF_plain (d : Nat) (s : ByteArray) (xs : List Int) (h0 : 0 < s.size) (h : bt s 0 ≠ 34) (h1 : ¬ bt s 0 < 32) (h2 : ¬ 126 < bt s 0) (h3 : bt s 0 ≠ 92) : qF (d + 1) s xs = qF d (tl s) (xs ++ [bt s 0]) := by
  rw [qF, if_pos h0, if_neg h, if_neg (by
    rintro (k | k | ⟨k, _⟩)
    · exact h1 k
    · exact h2 k
    · exact h3 k), if_neg h3]
theorem r_shut (k i : Nat) (s o : ByteArray) (hs : s.size ≤ 100000) (hi : i < s.size) (h : bt s i = 34) : glacisref05_quoted.l0 (k + 1) s o (i : Int) = some (⟨#[]⟩, 3, 0, o, s.extract (i + 1) s.size, true) := by
  rw [glacisref05_quoted.l0, if_pos (by omega), if_pos (by omega), if_pos h, wrap_next i (by omega), if_pos (by omega), if_pos (by omega)]; rfl
theorem r_nil (k i : Nat) (s o : ByteArray) (hi : ¬ i < s.size) : glacisref05_quoted.l0 (k + 1) s o (i : Int) = some (refV none) := by
  rw [glacisref05_quoted.l0, if_neg (by omega)]; rfl
theorem r_j (k i : Nat) (s o : ByteArray) (hi : i < s.size) (h : bt s i ≠ 34) : glacisref05_quoted.l0 (k + 1) s o (i : Int) = glacisref05_quoted.j1 k s o i (decide (bt s i < 32 ∨ 126 < bt s i)) := by
  rw [glacisref05_quoted.l0, if_pos (by omega), if_pos (by omega), if_neg h]
  by_cases h1 : bt s i < 32
  · rw [if_pos h1, decide_eq_true (Or.inl h1)]
  · rw [if_neg h1]
    by_cases h2 : bt s i > 126
    · rw [decide_eq_true h2, decide_eq_true (Or.inr h2)]
    · rw [decide_eq_false h2, decide_eq_false (by rintro (k | k); exact h1 k; exact h2 k)]
theorem r_bad (k i : Nat) (s o : ByteArray) (hi : i < s.size) (h : bt s i ≠ 34) (hb : bt s i < 32 ∨ 126 < bt s i) : glacisref05_quoted.l0 (k + 2) s o (i : Int) = some (refV none) := by
  rw [r_j (k + 1) i s o hi h, decide_eq_true hb, glacisref05_quoted.j1, if_pos rfl]; rfl
theorem r_plain (k i : Nat) (s o : ByteArray) (hs : s.size ≤ 100000) (hi : i < s.size) (ho : o.size ≤ 100000) (h : bt s i ≠ 34) (hb : ¬ (bt s i < 32 ∨ 126 < bt s i)) (h9 : bt s i ≠ 92) : glacisref05_quoted.l0 (k + 2) s o (i : Int) = glacisref05_quoted.l0 k s (o ++ s.extract i (i + 1)) ((i + 1 : Nat) : Int) := by
  have p1 : ((i : Int)) ≤ (((i + 1 : Nat) : Int)) := by omega
  have p2 : (((i + 1 : Nat) : Int)) ≤ (s.size : Int) := by omega
  have p3 : (0 : Int) ≤ (i : Int) := by omega
  have p4 : (i : Int) < (s.size : Int) := by omega
  have hw := wrap_next i (by omega)
  rw [r_j (k + 1) i s o hi h, decide_eq_false hb, glacisref05_quoted.j1, if_neg (by decide), if_pos p3, if_pos p4, if_neg h9, hw, if_pos p1, if_pos p2]
  simp only [Int.toNat_natCast]
  rw [if_pos (fits _ _ ho (ext_size s i hi))]
theorem r_esc (k i : Nat) (s o : ByteArray) (hs : s.size ≤ 100000) (hi : i + 1 < s.size) (ho : o.size ≤ 100000) (h9 : bt s i = 92) (hq : bt s ((i + 1 : Nat) : Int) = 34 ∨ bt s ((i + 1 : Nat) : Int) = 92) : glacisref05_quoted.l0 (k + 2) s o (i : Int) = glacisref05_quoted.l0 k s (o ++ s.extract (i + 1) (i + 1 + 1)) ((i + 1 + 1 : Nat) : Int) := by
  have p1 : (((i + 1 : Nat) : Int)) ≤ (((i + 1 + 1 : Nat) : Int)) := by omega
  have p2 : (((i + 1 + 1 : Nat) : Int)) ≤ (s.size : Int) := by omega
  have p3 : (0 : Int) ≤ (i : Int) := by omega
  have p4 : (i : Int) < (s.size : Int) := by omega
  have p5 : ¬ (((i + 1 : Nat) : Int)) = (s.size : Int) := by omega
  have p6 : (0 : Int) ≤ (((i + 1 : Nat) : Int)) := by omega
  have p7 : (((i + 1 : Nat) : Int)) < (s.size : Int) := by omega
  have hw := wrap_next i (by omega)
  have hw2 := wrap_next (i + 1) (by omega)
  rw [r_j (k + 1) i s o (by omega) (by rw [h9]; decide), decide_eq_false (by rw [h9]; decide), glacisref05_quoted.j1, if_neg (by decide), if_pos p3, if_pos p4, if_pos h9, hw, if_neg p5, if_pos p6, if_pos p7, hw2]
  rcases hq with hq | hq
  · rw [if_pos hq, if_pos p1, if_pos p2]
    simp only [Int.toNat_natCast]
    rw [if_pos (fits _ _ ho (ext_size s (i + 1) hi))]
  · rw [if_neg (by rw [hq]; decide), if_pos hq, if_pos p1, if_pos p2]
    simp only [Int.toNat_natCast]
    rw [if_pos (fits _ _ ho (ext_size s (i + 1) hi))]
theorem r_escbad (k i : Nat) (s o : ByteArray) (hs : s.size ≤ 100000) (hi : i < s.size) (h9 : bt s i = 92) (hq : ¬ (i + 1 < s.size ∧ (bt s ((i + 1 : Nat) : Int) = 34 ∨ bt s ((i + 1 : Nat) : Int) = 92))) : glacisref05_quoted.l0 (k + 2) s o (i : Int) = some (refV none) := by
  have p3 : (0 : Int) ≤ (i : Int) := by omega
  have p4 : (i : Int) < (s.size : Int) := by omega
  have hw := wrap_next i (by omega)
  rw [r_j (k + 1) i s o hi (by rw [h9]; decide), decide_eq_false (by rw [h9]; decide), glacisref05_quoted.j1, if_neg (by decide), if_pos p3, if_pos p4, if_pos h9, hw]
  by_cases he : i + 1 = s.size
  · rw [if_pos (show (((i + 1 : Nat) : Int)) = (s.size : Int) by omega)]; rfl
  · have h1 : i + 1 < s.size := by omega
    have p6 : (0 : Int) ≤ (((i + 1 : Nat) : Int)) := by omega
    have p7 : (((i + 1 : Nat) : Int)) < (s.size : Int) := by omega
    rw [if_neg (show ¬ (((i + 1 : Nat) : Int)) = (s.size : Int) by omega), if_pos p6, if_pos p7, if_neg (fun e => hq ⟨h1, Or.inl e⟩), if_neg (fun e => hq ⟨h1, Or.inr e⟩)]; rfl
theorem bt_ext (s : ByteArray) (i : Nat) (h : i < s.size) : bt (s.extract i s.size) 0 = bt s i := by
  have hl : i < (L s).length := by rw [← size_L]; exact h
  have e : L (s.extract i s.size) = (L s)[i] :: (L s).drop (i + 1) := by rw [L_ext, drop_cons _ _ hl]
  rw [bt0 e, bt_L s i hl]
theorem quoted_l (s : ByteArray) (hs : s.size ≤ 100000) : ∀ (d i k : Nat) (xs : List Int), s.size < i + d → i ≤ s.size → 2 * s.size + 2 < k + 2 * i → (strOfNums xs).size ≤ i →
    glacisref05_quoted.l0 k s (strOfNums xs) (i : Int) = some (refV ((qF d (s.extract i s.size) xs).map mkQ))
  | 0, i, k, xs, hd, hi, hk, hx => by omega
  | d + 1, i, k, xs, hd, hi, hk, hx => by
    obtain ⟨k, rfl⟩ : ∃ k', k = k' + 2 := ⟨k - 2, by omega⟩
    have hz : (s.extract i s.size).size + i = s.size := by rw [ByteArray.size_extract]; omega
    have ho : (strOfNums xs).size ≤ 100000 := Nat.le_trans hx (Nat.le_trans hi hs)
    by_cases h : i < s.size
    · have hb := bt_ext s i h
      have h0 : 0 < (s.extract i s.size).size := by omega
      by_cases c34 : bt s i = 34
      · rw [r_shut (k + 1) i s _ hs h c34, qF_shut d _ xs h0 (hb.trans c34), tl_ext]; rfl
      by_cases cb : bt s i < 32 ∨ 126 < bt s i
      · rw [r_bad k i s _ h c34 cb, qF_bad d _ xs h0 (by rw [hb]; exact c34) (by rw [hb]; exact cb)]; rfl
      by_cases c92 : bt s i = 92
      · have hz1 : (s.extract (i + 1) s.size).size + (i + 1) = s.size := by rw [ByteArray.size_extract]; omega
        by_cases hq : i + 1 < s.size ∧ (bt s ((i + 1 : Nat) : Int) = 34 ∨ bt s ((i + 1 : Nat) : Int) = 92)
        · have hb1 := bt_ext s (i + 1) hq.1
          rw [r_esc k i s _ hs hq.1 ho c92 hq.2, qF_esc d _ xs h0 (hb.trans c92) (by rw [tl_ext]; omega) (by rw [tl_ext, hb1]; exact hq.2), tl_ext, tl_ext, hb1, ← nums_snoc xs s (i + 1) hq.1]
          refine quoted_l s hs d (i + 1 + 1) k _ (by omega) (by omega) (by omega) ?_
          rw [nums_snoc xs s (i + 1) hq.1, ByteArray.size_append, ext_size s (i + 1) hq.1]; omega
        · rw [r_escbad k i s _ hs h c92 hq, qF_escbad d _ xs h0 (hb.trans c92) (by
            rw [tl_ext]
            rintro ⟨k1, k2⟩
            have h1 : i + 1 < s.size := by omega
            rw [bt_ext s (i + 1) h1] at k2
            exact hq ⟨h1, k2⟩)]
          rfl
      · rw [r_plain k i s _ hs h ho c34 cb c92, qF_plain d _ xs h0 (by rw [hb]; exact c34) (by rw [hb]; exact fun e => cb (Or.inl e)) (by rw [hb]; exact fun e => cb (Or.inr e)) (by rw [hb]; exact c92), tl_ext, hb, ← nums_snoc xs s i h]
        refine quoted_l s hs d (i + 1) k _ (by omega) (by omega) (by omega) ?_
        rw [nums_snoc xs s i h, ByteArray.size_append, ext_size s i h]; omega
    · rw [r_nil (k + 1) i s _ h, qF_nil d _ xs (by omega)]; rfl
theorem quoted_f (s : ByteArray) (hs : s.size ≤ 100000) (h0 : 0 < s.size) (k : Nat) (hk : 2 * s.size + 10 < k) : glacisref05_quoted.f k s = some (refV (rdQuoted (tl s))) := by
  unfold glacisref05_quoted.f rdQuoted
  have z := tl_lt s h0
  rw [z]
  have := quoted_l s hs s.size 1 k [] (by omega) (by omega) (by omega) (by show (0 : Nat) ≤ 1; omega)
  exact this
theorem tok_l (s : ByteArray) (hs : s.size ≤ 100000) : ∀ (m x k : Nat), x + m = s.size → m + 17 < k → (∀ j : Nat, j < x → tokP (bt s j) = true) → glacisref05_value.l0 k s (x : Int) = some (refV (some ((4, 0, takB tokP s), drpB tokP s)))
  | 0, x, k, hm, hk, hj => by
    obtain ⟨k, rfl⟩ : ∃ k', k = k' + 1 := ⟨k - 1, by omega⟩
    have e := span_eq tokP s x (by omega) hj (fun h => by omega)
    rw [glacisref05_value.l0, if_neg (by omega), if_pos (by omega), if_pos (by omega)]
    unfold takB drpB
    rw [e]; rfl
  | m + 1, x, k, hm, hk, hj => by
    obtain ⟨k, rfl⟩ : ∃ k', k = k' + 1 := ⟨k - 1, by omega⟩
    obtain ⟨c, hc⟩ := bt_u s x (by omega)
    rw [glacisref05_value.l0, if_pos (by omega), if_pos (by omega), hc, tokens_u c k (by omega)]
    simp only [Option.bind_some]
    by_cases hd : tokP c.toNat = true
    · rw [if_pos hd, wrap_next x (by omega)]
      refine tok_l s hs m (x + 1) k (by omega) (by omega) (fun j hjx => ?_)
      by_cases e : j = x
      · subst e; rw [hc]; exact hd
      · exact hj j (by omega)
    · have e := span_eq tokP s x (by omega) hj (fun _ => by rw [hc]; exact Bool.eq_false_iff.mpr hd)
      rw [if_neg hd, if_pos (by omega)]
      unfold takB drpB
      rw [e]; rfl
theorem base_l (s : ByteArray) (hs : s.size ≤ 100000) (h0 : 0 < s.size) : ∀ (m x k : Nat), x + 1 + m = s.size → m < k → (∀ j : Nat, j < x → baP (bt (tl s) j) = true) → glacisref05_value.l1 k s ((x + 1 : Nat) : Int) = some (refV (rdBytes (tl s)))
  | 0, x, k, hm, hk, hj => by
    obtain ⟨k, rfl⟩ : ∃ k', k = k' + 1 := ⟨k - 1, by omega⟩
    have hz := tl_lt s h0
    have e := span_eq baP (tl s) x (by omega) hj (fun h => by omega)
    rw [glacisref05_value.l1, if_neg (by omega), if_pos (by omega)]
    unfold rdBytes
    rw [drp_is, e, atF_ext, decide_eq_false (by omega), if_neg (by decide)]; rfl
  | m + 1, x, k, hm, hk, hj => by
    obtain ⟨k, rfl⟩ : ∃ k', k = k' + 1 := ⟨k - 1, by omega⟩
    have hz := tl_lt s h0
    have hb : bt (tl s) (x : Int) = bt s ((x + 1 : Nat) : Int) := bt_tl s x (by omega)
    obtain ⟨c, hc⟩ := bt_u s (x + 1) (by omega)
    rw [glacisref05_value.l1, if_pos (by omega), if_pos (by omega), hc, base_u c]
    simp only [Option.bind_some]
    by_cases hd : baP c.toNat = true
    · rw [if_pos hd, wrap_next _ (by omega)]
      refine base_l s hs h0 m (x + 1) k (by omega) (by omega) (fun j hjx => ?_)
      by_cases e : j = x
      · subst e; rw [hb, hc]; exact hd
      · exact hj j (by omega)
    · have e := span_eq baP (tl s) x (by omega) hj (fun _ => by rw [hb, hc]; exact Bool.eq_false_iff.mpr hd)
      rw [if_neg hd, if_neg (by omega)]
      unfold rdBytes
      rw [drp_is, e, atF_ext, hb, hc]
      by_cases h58 : (c.toNat : Int) = 58
      · rw [if_pos h58, decide_eq_true ⟨by omega, h58⟩, if_pos rfl, if_pos (by omega), if_pos (by omega), wrap_next _ (by omega), if_pos (by omega), if_pos (by omega), refV_some]
        have e1 : s.extract 1 (((x + 1 : Nat) : Int)).toNat = takB baP (tl s) := by
          apply L_inj
          unfold takB
          rw [e, L_ext0, L_tl, L_extm]
          rw [show (((x + 1 : Nat) : Int)).toNat - 1 = x by omega, List.drop_one]
        have e2 : s.extract (((x + 1 + 1 : Nat) : Int)).toNat s.size = tl ((tl s).extract x (tl s).size) := by
          rw [tl_ext]
          apply L_inj
          rw [L_ext, L_ext, L_tl, ← List.drop_one, List.drop_drop]
          congr 1
          omega
        rw [e1, e2]
      · rw [if_neg h58, decide_eq_false (fun h => h58 h.2), if_neg (by decide)]; rfl
theorem firsts (c : UInt8) : ((c.toNat : Int) = 45 ∨ dgP c.toNat = true → (c.toNat : Int) ≠ 34) ∧ (leP c.toNat = true ∨ (c.toNat : Int) = 42 → tokP c.toNat = true ∧ (c.toNat : Int) ≠ 34) := by
  have h := allU (fun c : UInt8 => (!(decide ((c.toNat : Int) = 45) || dgP c.toNat) || !decide ((c.toNat : Int) = 34)) && (!(leP c.toNat || decide ((c.toNat : Int) = 42)) || (tokP c.toNat && !decide ((c.toNat : Int) = 34)))) (by decide +kernel) c
  simp only [Bool.and_eq_true, Bool.or_eq_true, Bool.not_eq_true', Bool.or_eq_false_iff, decide_eq_false_iff_not] at h
  refine ⟨fun k => ?_, fun k => ?_⟩
  · rcases h.1 with ⟨a, b⟩ | a
    · rcases k with k | k
      · exact absurd k a
      · rw [k] at b; cases b
    · exact a
  · rcases h.2 with ⟨a, b⟩ | a
    · rcases k with k | k
      · rw [k] at a; cases a
      · exact absurd k b
    · exact a
theorem value_f (s : ByteArray) (hs : s.size ≤ 100000) (k : Nat) (hk : 2 * s.size + 100 < k) : glacisref05_value.f k s = some (refV (rdValue s)) := by
  unfold glacisref05_value.f rdValue
  by_cases h0 : 0 < s.size
  · obtain ⟨c, hc⟩ := bt_u s 0 h0
    have hne : ¬ s.toList = ([] : List UInt8) := by
      rw [L_toList]; intro e; rw [size_L, e] at h0; exact absurd h0 (by simp)
    have hc' : bt s 0 = (c.toNat : Int) := hc
    obtain ⟨f1, f2⟩ := firsts c
    rw [if_neg hne, if_pos (by omega), if_pos h0, hc', letter_u, digit_u]
    simp only [Option.bind_some]
    obtain ⟨k, rfl⟩ : ∃ k', k = k' + 3 := ⟨k - 3, by omega⟩
    have hj0 : ∀ b : Bool, b = true → (c.toNat : Int) = 45 ∨ dgP c.toNat = true → glacisref05_value.j0 (k + 3) s (leP c.toNat) b = some (refV (if (c.toNat : Int) = 45 ∨ dgP c.toNat = true then rdNumber s else if leP c.toNat = true ∨ (c.toNat : Int) = 42 then some ((4, 0, takB tokP s), drpB tokP s) else if (c.toNat : Int) = 34 then rdQuoted (tl s) else if (c.toNat : Int) = 58 then rdBytes (tl s) else if (c.toNat : Int) = 63 then rdBool (tl s) else none)) := by
      intro b hb hcn
      rw [glacisref05_value.j0, if_pos hb, number_f s hs h0 _ (by omega), if_pos hcn]
      simp only [Option.bind_some]
    by_cases c45 : (c.toNat : Int) = 45
    · rw [if_pos c45]; exact hj0 true rfl (Or.inl c45)
    rw [if_neg c45]
    by_cases cd : dgP c.toNat = true
    · exact hj0 _ cd (Or.inr cd)
    rw [if_neg (by rintro (h | h); exact c45 h; exact cd h), glacisref05_value.j0, if_neg cd, if_pos (by omega), hc']
    by_cases c34 : (c.toNat : Int) = 34
    · rw [if_pos c34, quoted_f s hs h0 _ (by omega), if_neg (fun h => (f2 h).2 c34), if_pos c34]
      simp only [Option.bind_some]
    rw [if_neg c34]
    have hj1 : ∀ b : Bool, b = true → leP c.toNat = true ∨ (c.toNat : Int) = 42 → glacisref05_value.j1 (k + 2) s b = some (refV (if leP c.toNat = true ∨ (c.toNat : Int) = 42 then some ((4, 0, takB tokP s), drpB tokP s) else if (c.toNat : Int) = 34 then rdQuoted (tl s) else if (c.toNat : Int) = 58 then rdBytes (tl s) else if (c.toNat : Int) = 63 then rdBool (tl s) else none)) := by
      intro b hb hcn
      rw [glacisref05_value.j1, if_pos hb, if_pos hcn]
      exact tok_l s hs (s.size - 1) 1 (k + 1) (by omega) (by omega) (fun j hj => by
        obtain rfl : j = 0 := by omega
        rw [hc]; exact (f2 hcn).1)
    by_cases cl : leP c.toNat = true
    · rw [if_pos cl]; exact hj1 true rfl (Or.inl cl)
    rw [if_neg cl]
    by_cases c42 : (c.toNat : Int) = 42
    · exact hj1 _ (beq_iff_eq.2 c42) (Or.inr c42)
    rw [if_neg (by rintro (h | h); exact cl h; exact c42 h), if_neg c34, glacisref05_value.j1, if_neg (by simpa using c42), if_pos (by omega), hc']
    by_cases c58 : (c.toNat : Int) = 58
    · rw [if_pos c58, if_pos c58]
      exact base_l s hs h0 (s.size - 1) 0 (k + 1) (by omega) (by omega) (fun j hj => by omega)
    rw [if_neg c58, if_neg c58]
    by_cases c63 : (c.toNat : Int) = 63
    · rw [if_pos c63, if_pos c63]
      unfold rdBool
      have hz := tl_lt s h0
      by_cases h2 : (s.size : Int) < 2
      · have e : L (tl s) = [] := by
          have : (L (tl s)).length = 0 := by rw [← size_L]; omega
          exact List.length_eq_zero_iff.1 this
        rw [if_pos h2, atF_nil e, atF_nil e, if_neg (by decide), if_neg (by decide)]; rfl
      · rw [if_neg h2, if_pos (by omega)]
        have hb : bt (tl s) 0 = bt s 1 := bt_tl s 0 (by omega)
        have a1 : ∀ n : Int, atF (tl s) n = decide (bt s 1 = n) := fun n => by
          unfold atF; rw [hb]; simp [show 0 < (tl s).size by omega]
        have er : s.extract 2 s.size = tl (tl s) := by rw [tl_is s, tl_ext]
        rw [a1, a1]
        by_cases d48 : bt s 1 = 48
        · rw [if_pos d48, if_pos (by omega), d48, er]; rfl
        rw [if_neg d48]
        by_cases d49 : bt s 1 = 49
        · rw [if_pos d49, if_pos (by omega), d49, er]; rfl
        · rw [if_neg d49, decide_eq_false d49, decide_eq_false d48, if_neg (by decide), if_neg (by decide)]; rfl
    · rw [if_neg c63, if_neg c63]; rfl
  · have he : s.toList = ([] : List UInt8) := by
      rw [L_toList]
      have : (L s).length = 0 := by rw [← size_L]; omega
      exact List.length_eq_zero_iff.1 this
    rw [if_pos he, if_neg h0]; rfl
def refK (o : Option (ByteArray × ByteArray)) : ByteArray × ByteArray × Int := match o with | some (k, t) => (k, t, 0) | none => (⟨#[]⟩, ⟨#[]⟩, 50)
theorem key_l (s : ByteArray) (hs : s.size ≤ 100000) (h0 : 0 < s.size) (hf : smP (bt s 0) = true ∨ bt s 0 = 42) : ∀ (m x k : Nat), x + 1 + m = s.size → m < k → (∀ j : Nat, j < x + 1 → keP (bt s j) = true) → glacisref05_Key.l0 k s ((x + 1 : Nat) : Int) = some (takB keP s, drpB keP s, 0)
  | 0, x, k, hm, hk, hj => by
    obtain ⟨k, rfl⟩ : ∃ k', k = k' + 1 := ⟨k - 1, by omega⟩
    have e := span_eq keP s (x + 1) (by omega) hj (fun h => by omega)
    rw [glacisref05_Key.l0, if_neg (by omega), if_neg (by omega), if_pos (by omega), if_pos (by omega)]
    unfold takB drpB
    rw [e]; rfl
  | m + 1, x, k, hm, hk, hj => by
    obtain ⟨k, rfl⟩ : ∃ k', k = k' + 1 := ⟨k - 1, by omega⟩
    obtain ⟨c, hc⟩ := bt_u s (x + 1) (by omega)
    have hb : ((((x + 1 : Nat) : Int)) == 0) = false := by rw [beq_eq_false_iff_ne]; omega
    rw [glacisref05_Key.l0, if_pos (by omega), if_pos (by omega), hc, hb, small_v c]
    simp only [Option.bind_some]
    by_cases hd : keP c.toNat = true
    · rw [if_pos hd, wrap_next _ (by omega)]
      refine key_l s hs h0 hf m (x + 1) k (by omega) (by omega) (fun j hjx => ?_)
      by_cases e : j = x + 1
      · subst e; rw [hc]; exact hd
      · exact hj j (by omega)
    · have e := span_eq keP s (x + 1) (by omega) hj (fun _ => by rw [hc]; exact Bool.eq_false_iff.mpr hd)
      rw [if_neg hd, if_neg (by omega), if_pos (by omega)]
      unfold takB drpB
      rw [e]; rfl
theorem key_f (s : ByteArray) (hs : s.size ≤ 100000) (k : Nat) (hk : s.size + 2 < k) : glacisref05_Key.f k s = some (refK (rdKey s)) := by
  unfold glacisref05_Key.f rdKey
  obtain ⟨k, rfl⟩ : ∃ k', k = k' + 1 := ⟨k - 1, by omega⟩
  rw [glacisref05_Key.l0]
  by_cases h0 : 0 < s.size
  · obtain ⟨c, hc⟩ := bt_u s 0 h0
    have hc' : bt s 0 = (c.toNat : Int) := hc
    rw [if_pos (by omega), if_pos (by omega), hc', show ((0 : Int) == 0) = true from rfl, small_u c]
    simp only [Option.bind_some]
    by_cases hf : smP c.toNat = true ∨ (c.toNat : Int) = 42
    · have e : (smP c.toNat || decide ((c.toNat : Int) = 42)) = true := by
        rcases hf with h | h
        · rw [h]; rfl
        · rw [decide_eq_true h, Bool.or_true]
      rw [if_pos e, if_pos ⟨h0, hf⟩]
      rw [show wrap64 ((0 : Int) + 1) = ((0 + 1 : Nat) : Int) from wrap_id _ (by omega)]
      have := key_l s hs h0 (by rw [hc']; exact hf) (s.size - 1) 0 k (by omega) (by omega) (fun j hj => by
        obtain rfl : j = 0 := by omega
        rw [hc]; exact (key_first c hf).1)
      exact this
    · have e : (smP c.toNat || decide ((c.toNat : Int) = 42)) = false := by
        rw [Bool.or_eq_false_iff]
        exact ⟨Bool.eq_false_iff.mpr (fun h => hf (Or.inl h)), decide_eq_false (fun h => hf (Or.inr h))⟩
      rw [e, if_neg (by decide), if_pos trivial, if_neg (fun h => hf h.2)]; rfl
  · rw [if_neg (by omega), if_pos rfl, if_neg (fun h => h0 h.1)]; rfl
end Go.Proofs.YtjdbiicjfpgjkaaGreatDoor.Pl
/- Chapter 5: the document's own reader: parameters, items, fields. -/
namespace Go.Proofs.YtjdbiicjfpgjkaaGreatDoor.Pl
open Go.RowKit Go.Proofs.YtjdbiicjfpgjkaaGreatDoor.Q Go.Proofs.YtjdbiicjfpgjkaaGreatDoor.Sf Go.Proofs.YtjdbiicjfpgjkaaGreatDoorW.PrintWords Go.Proofs.YtjdbiicjfpgjkaaGreatDoorW.PrintLast
set_option linter.unusedVariables false
set_option linter.unusedSimpArgs false
theorem toList_inj {a b : ByteArray} : a.toList = b.toList ↔ a = b := ⟨fun h => L_inj (by rw [← L_toList, ← L_toList, h]), fun h => by rw [h]⟩
def refP (o : Option (List S60 × ByteArray)) : List S60 × ByteArray × Int := match o with | some (l, t) => (l, t, 0) | none => ([], ⟨#[]⟩, 50)
def refN (o : Option ((Int × Int × ByteArray) × List S60 × ByteArray)) : Int × Int × ByteArray × List S60 × ByteArray × Int := match o with | some (v, l, t) => (v.1, v.2.1, v.2.2, l, t, 0) | none => (0, 0, ⟨#[]⟩, [], ⟨#[]⟩, 50)
end Go.Proofs.YtjdbiicjfpgjkaaGreatDoor.Pl
/- Chapter 6: awake's calls, evaluated. -/
namespace Go.Proofs.YtjdbiicjfpgjkaaGreatDoor.Pl
open Go.RowKit Go.Proofs.YtjdbiicjfpgjkaaGreatDoor.Q Go.Proofs.YtjdbiicjfpgjkaaGreatDoor.Sf Go.Proofs.YtjdbiicjfpgjkaaGreatDoorW.PrintWords Go.Proofs.YtjdbiicjfpgjkaaGreatDoorW.PrintLast
set_option linter.unusedVariables false
set_option linter.unusedSimpArgs false
set_option maxRecDepth 100000
def la6 : List S34 := [⟨⟨#[]⟩, false, ⟨4, 0, ⟨#[97]⟩, []⟩, [], []⟩, ⟨⟨#[]⟩, true, ⟨0, 0, ⟨#[]⟩, []⟩, [⟨4, 0, ⟨#[98]⟩, []⟩, ⟨4, 0, ⟨#[99]⟩, []⟩], [⟨⟨#[100]⟩, 6, 1, ⟨#[]⟩⟩]⟩, ⟨⟨#[]⟩, false, ⟨3, 0, ⟨#[101]⟩, []⟩, [], []⟩]
def ld6 : List S34 := [⟨⟨#[97]⟩, true, ⟨0, 0, ⟨#[]⟩, []⟩, [⟨4, 0, ⟨#[120]⟩, []⟩], []⟩, ⟨⟨#[98]⟩, false, ⟨6, 1, ⟨#[]⟩, []⟩, [], []⟩]
theorem list_c : sfield_List.f 20 (⟨#[97, 44]⟩ : ByteArray) = some ([], 50) := by kernel_rfl
theorem list_a : sfield_List.f 20 (⟨#[97, 44, 32, 40, 98, 32, 99, 41, 59, 100, 32, 44, 32, 34, 101, 34]⟩ : ByteArray) = some (la6, 0) := by kernel_rfl
theorem dict_a : sfield_Dict.f 20 (⟨#[97, 61, 49, 44, 32, 98, 44, 32, 97, 61, 40, 120, 41]⟩ : ByteArray) = some (ld6, 0) := by kernel_rfl
theorem dictT_a : sfield_DictText.f 20 ld6 = some (⟨#[97, 61, 40, 120, 41, 44, 32, 98]⟩, 0) := by kernel_rfl
theorem awake6_20 : glacislaw06_awake.f 20 = some true := by
  unfold glacislaw06_awake.f
  rw [list_a, Option.bind_some, dict_a, Option.bind_some]
  show ((sfield_DictText.f 20 ld6).bind fun _ => _) = _
  rw [dictT_a, Option.bind_some, list_c, Option.bind_some]
  repeat rw [if_pos (by first | decide | rfl | (rw [Lib.toList_data]; rfl) | (rw [Lib.toList_data]))]
  rfl
theorem up6 {α : Type} {f : Nat → Option α} (hm : ∀ k, LeO (f k) (f (k + 1))) {k0 : Nat} {r : α} (h : f k0 = some r) : ∀ k, k0 ≤ k → f k = some r := by
  intro k hk
  induction k with
  | zero => obtain rfl : k0 = 0 := by omega
            exact h
  | succ k ih =>
    rcases Nat.lt_or_ge k k0 with c | c
    · obtain rfl : k0 = k + 1 := by omega
      exact h
    · exact hm k r (ih c)
theorem awake6 (k : Nat) (hk : 20 ≤ k) : glacislaw06_awake.f k = some true := up6 glacislaw06_awake.mono awake6_20 k hk
end Go.Proofs.YtjdbiicjfpgjkaaGreatDoor.Pl
/- Chapter 6: blanks, prefixes, as both readers spell them. -/
namespace Go.Proofs.YtjdbiicjfpgjkaaGreatDoor.Pl
open Go.RowKit Go.Proofs.YtjdbiicjfpgjkaaGreatDoor.Q Go.Proofs.YtjdbiicjfpgjkaaGreatDoor.Sf Go.Proofs.YtjdbiicjfpgjkaaGreatDoorW.PrintWords Go.Proofs.YtjdbiicjfpgjkaaGreatDoorW.PrintLast
set_option linter.unusedVariables false
set_option linter.unusedSimpArgs false
def wsP (c : Int) : Bool := c == 32 || c == 9
theorem eq_of_all (c : UInt8) : [(32 : UInt8)].contains c = spP c.toNat := by
  have := allU (fun c => decide ([(32 : UInt8)].contains c = spP c.toNat)) (by decide +kernel) c
  exact of_decide_eq_true this
theorem eq_of_all2 (c : UInt8) : [(32 : UInt8), 9].contains c = wsP c.toNat := by
  have := allU (fun c => decide ([(32 : UInt8), 9].contains c = wsP c.toNat)) (by decide +kernel) c
  exact of_decide_eq_true this
theorem trim1 (s : ByteArray) : trimLBA s ⟨#[32]⟩ = drpB spP s := by
  apply L_inj
  rw [L_drp]
  show ((⟨(Lib.trimLeftS (L s) [32]).toArray⟩ : ByteArray)).data.toList = _
  simp only [Lib.trimLeftS]
  congr 1
  funext c
  exact eq_of_all c
theorem trim2 (s : ByteArray) : trimLBA s ⟨#[32, 9]⟩ = drpB wsP s := by
  apply L_inj
  rw [L_drp]
  show ((⟨(Lib.trimLeftS (L s) [32, 9]).toArray⟩ : ByteArray)).data.toList = _
  simp only [Lib.trimLeftS]
  congr 1
  funext c
  exact eq_of_all2 c
theorem trimL1_f (s : ByteArray) (hs : s.size ≤ 281474976710656) : strings_TrimLeft.f s ⟨#[32]⟩ = some (drpB spP s) := by
  unfold strings_TrimLeft.f
  rw [if_pos ⟨.inl rfl, hs⟩, trim1]
theorem trimL2_f (s : ByteArray) (hs : s.size ≤ 281474976710656) : strings_TrimLeft.f s ⟨#[32, 9]⟩ = some (drpB wsP s) := by
  unfold strings_TrimLeft.f
  rw [if_pos ⟨.inr rfl, hs⟩, trim2]
theorem cut_f (s : ByteArray) (n : UInt8) : strings_CutPrefix.f s ⟨#[n]⟩ = some (if atF s n.toNat = true then (tl s, true) else (s, false)) := by
  unfold strings_CutPrefix.f stringslite_CutPrefix.f stringslite_HasPrefix.f
  have h1 : (⟨#[n]⟩ : ByteArray).size = 1 := rfl
  by_cases hz : 0 < s.size
  · obtain ⟨c, r, hc⟩ := cons_of s hz
    have e1 : (s.extract 0 1).toList = [c] := by rw [L_toList, L_ext0, hc]; rfl
    have e2 : (⟨#[n]⟩ : ByteArray).toList = [n] := by rw [L_toList]; rfl
    rw [if_pos (by rw [h1]; omega), if_pos (by rw [h1]; omega), if_pos (by rw [h1]; omega)]
    show ((some ((s.extract 0 1).toList == (⟨#[n]⟩ : ByteArray).toList)).bind _).bind _ = _
    rw [e1, e2, atF_cons hc]
    by_cases h : c = n
    · subst h
      simp only [Option.bind_some, beq_self_eq_true, if_true, decide_true]
      rw [if_pos (by rw [h1]; omega), if_pos (by rw [h1]; omega)]
      rfl
    · have h2 : ¬ ((c.toNat : Int) = (n.toNat : Int)) := fun e => h (u_eq e)
      have h3 : ([c] == [n]) = false := by simp [h]
      simp only [Option.bind_some, h3, h2, decide_false]
      rfl
  · have h0 : s.size = 0 := by omega
    have h2 : atF s n.toNat = false := decide_eq_false (fun h => hz h.1)
    rw [if_neg (by rw [h1]; omega), h2]
    rfl
theorem drp_size (p : Int → Bool) (s : ByteArray) : (drpB p s).size ≤ s.size := by
  unfold drpB
  rw [ByteArray.size_extract]
  omega
end Go.Proofs.YtjdbiicjfpgjkaaGreatDoor.Pl
/- Chapter 6: a member, as both readers read it. -/
namespace Go.Proofs.YtjdbiicjfpgjkaaGreatDoor.Pl
open Go.RowKit Go.Proofs.YtjdbiicjfpgjkaaGreatDoor.Q Go.Proofs.YtjdbiicjfpgjkaaGreatDoor.Sf Go.Proofs.YtjdbiicjfpgjkaaGreatDoorW.PrintWords Go.Proofs.YtjdbiicjfpgjkaaGreatDoorW.PrintLast
set_option linter.unusedVariables false
set_option linter.unusedSimpArgs false
def itm (v : Int × Int × ByteArray) (l : List S60) : S31 := ⟨v.1, v.2.1, v.2.2, l⟩
def mIn (its : List S31) (l : List S60) : S34 := ⟨⟨#[]⟩, true, ⟨0, 0, ⟨#[]⟩, []⟩, its, l⟩
def mIt (x : S31) : S34 := ⟨⟨#[]⟩, false, x, [], []⟩
/-- Items between brackets, behind the first one. -/
def rdInner : Nat → ByteArray → List S31 → Option ((List S31 × List S60) × ByteArray)
  | 0, _, _ => none
  | d + 1, s, its => if atF (drpB spP s) 41 = true then (rdParams (tl (drpB spP s))).bind fun p => some ((its, p.1), p.2)
    else (rdNext (drpB spP s)).bind fun x => if its ≠ [] ∧ drpB spP s = s then none else rdInner d x.2.2 (its ++ [itm x.1 x.2.1])
def rdMember (s : ByteArray) : Option (S34 × ByteArray) :=
  if atF s 40 = true then (rdInner s.size (tl s) []).bind fun x => some (mIn x.1.1 x.1.2, x.2) else (rdNext s).bind fun x => some (mIt (itm x.1 x.2.1), x.2.2)
theorem next_lt {s : ByteArray} {v : Int × Int × ByteArray} {l : List S60} {t : ByteArray} (h : rdNext s = some (v, l, t)) : t.size < s.size ∧ l.length ≤ s.size := by
  obtain ⟨u, e, hi, _⟩ := next_inv h
  have h1 := hi.pos
  have h2 := it_count hi
  have h3 : s.size = u.length + t.size := by rw [size_L, size_L, e, List.length_append]
  omega
theorem params_le {s : ByteArray} {l : List S60} {t : ByteArray} (h : rdParams s = some (l, t)) : t.size ≤ s.size ∧ l.length ≤ s.size := by
  obtain ⟨u, e, hi, _⟩ := pt_inv _ _ _ _ _ h
  have h2 := pt_count hi
  have h3 : s.size = u.length + t.size := by rw [size_L, size_L, e, List.length_append]
  simp only [List.length_nil] at h2
  omega
theorem atF_pos {s : ByteArray} {c : Int} (h : atF s c = true) : 0 < s.size := (of_decide_eq_true h).1
theorem inner_lt : ∀ (d : Nat) (s : ByteArray) (its : List S31) (q : List S31 × List S60) (r : ByteArray), rdInner d s its = some (q, r) →
    r.size < s.size ∧ q.2.length ≤ s.size ∧ q.1.length ≤ its.length + s.size ∧ ∀ x ∈ q.1, x ∈ its ∨ x.f3.length ≤ s.size
  | 0, _, _, _, _, h => by cases h
  | d + 1, s, its, q, r, h => by
    have hd := drp_size spP s
    rw [rdInner] at h
    split at h
    · rename_i ha
      obtain ⟨⟨l, t⟩, hp, h⟩ := Option.bind_eq_some_iff.1 h
      obtain ⟨rfl, rfl⟩ := Prod.mk.inj (Option.some.inj h)
      have h1 := params_le hp
      have h2 := atF_pos ha
      rw [size_tl] at h1
      dsimp only
      exact ⟨by omega, by omega, by omega, fun x hx => .inl hx⟩
    · obtain ⟨⟨v, l, t⟩, hp, h⟩ := Option.bind_eq_some_iff.1 h
      split at h
      · cases h
      · have h1 := next_lt hp
        obtain ⟨i1, i2, i3, i4⟩ := inner_lt d _ _ _ _ h
        dsimp only at i1 i2 i3 i4
        simp only [List.length_append, List.length_singleton] at i3
        refine ⟨by omega, by omega, by omega, fun x hx => ?_⟩
        rcases i4 x hx with h5 | h5
        · rcases List.mem_append.1 h5 with h6 | h6
          · exact .inl h6
          · rw [List.mem_singleton.1 h6]; exact .inr (by show l.length ≤ _; omega)
        · exact .inr (by omega)
/-- A member whose lists are no longer than a text. -/
def Fit (n : Nat) (m : S34) : Prop := m.f2.f3.length ≤ n ∧ m.f3.length ≤ n ∧ m.f4.length ≤ n ∧ (∀ i ∈ m.f3, i.f3.length ≤ n) ∧ m.f0.size ≤ n
theorem member_lt {s : ByteArray} {m : S34} {r : ByteArray} (h : rdMember s = some (m, r)) : r.size < s.size ∧ Fit s.size m := by
  unfold rdMember at h
  split at h
  · rename_i ha
    obtain ⟨⟨⟨its, l⟩, t⟩, hp, h⟩ := Option.bind_eq_some_iff.1 h
    obtain ⟨rfl, rfl⟩ := Prod.mk.inj (Option.some.inj h)
    obtain ⟨i1, i2, i3, i4⟩ := inner_lt _ _ _ _ _ hp
    have h2 := atF_pos ha
    rw [size_tl] at i1 i2 i3 i4
    dsimp only at i1 i2 i3 i4
    simp only [List.length_nil] at i3
    refine ⟨by dsimp only; omega, by show (0 : Nat) ≤ _; omega, by show its.length ≤ _; omega, by show l.length ≤ _; omega, fun x hx => ?_, Nat.zero_le _⟩
    rcases i4 x hx with h5 | h5
    · cases h5
    · omega
  · obtain ⟨⟨v, l, t⟩, hp, h⟩ := Option.bind_eq_some_iff.1 h
    obtain ⟨rfl, rfl⟩ := Prod.mk.inj (Option.some.inj h)
    have h1 := next_lt hp
    exact ⟨h1.1, by show l.length ≤ _; have := h1.2; omega, Nat.zero_le _, Nat.zero_le _, (fun x hx => by cases hx), Nat.zero_le _⟩
end Go.Proofs.YtjdbiicjfpgjkaaGreatDoor.Pl
/- Chapter 6: the program's reader and the document's, of one member. -/
namespace Go.Proofs.YtjdbiicjfpgjkaaGreatDoor.Pl
open Go.RowKit Go.Proofs.YtjdbiicjfpgjkaaGreatDoor.Q Go.Proofs.YtjdbiicjfpgjkaaGreatDoor.Sf Go.Proofs.YtjdbiicjfpgjkaaGreatDoorW.PrintWords Go.Proofs.YtjdbiicjfpgjkaaGreatDoorW.PrintLast
set_option linter.unusedVariables false
set_option linter.unusedSimpArgs false
def encM (m : S34) (r : ByteArray) : Ten := (m.f0, m.f1, m.f2.f0, m.f2.f1, m.f2.f2, m.f2.f3, m.f3, m.f4, r, 0)
/-- What the program's reader answers. -/
def Told (n : Nat) (x : Ten) (o : Option (S34 × ByteArray)) : Prop := match o with
  | some (m, r) => x = encM m r
  | none => errOf x = 50 ∧ restOf x = ⟨#[]⟩ ∧ x.1.size ≤ n
theorem sp_size (s : ByteArray) : (drpB spP s).size ≤ s.size := drp_size spP s
theorem next_s (s : ByteArray) (hs : s.size ≤ 2199023255552) : sfitem_Next.f s = some (refN (rdNext s)) := by
  unfold sfitem_Next.f
  rw [if_pos hs]
  cases rdNext s with
  | none => rfl
  | some x => rfl
theorem params_s (s : ByteArray) (hs : s.size ≤ 2199023255552) : sfitem_Params.f s = some (refP (rdParams s)) := by
  unfold sfitem_Params.f
  rw [if_pos hs]
  cases rdParams s with
  | none => rfl
  | some x => rfl
theorem inner_s : ∀ (d : Nat) (s : ByteArray) (its : List S31) (k : Nat), s.size < d → s.size ≤ 20000 → its.length + s.size ≤ 20000 → d ≤ k →
    ∃ x, sfield_inner.l0 k s ⟨#[]⟩ true 0 0 ⟨#[]⟩ its = some x ∧ Told 0 x ((rdInner d s its).bind fun q => some (mIn q.1.1 q.1.2, q.2))
  | 0, _, _, _, h, _, _, _ => absurd h (by omega)
  | d + 1, s, its, k, hd, hs, hl, hk => by
    obtain ⟨k, rfl⟩ : ∃ k', k = k' + 1 := ⟨k - 1, by omega⟩
    have hz := sp_size s
    rw [sfield_inner.l0, trimL1_f s (by omega), Option.bind_some, cut_f, Option.bind_some, rdInner]
    by_cases ha : atF (drpB spP s) 41 = true
    · have ha2 : atF (drpB spP s) ((41 : UInt8).toNat : Int) = true := ha
      rw [if_pos ha2, if_pos ha]
      dsimp only
      rw [if_pos rfl, params_s _ (by rw [size_tl]; omega), Option.bind_some]
      cases rdParams (tl (drpB spP s)) with
      | none => exact ⟨_, rfl, rfl, rfl, Nat.le_refl _⟩
      | some p => exact ⟨_, rfl, rfl⟩
    · have ha2 : ¬ atF (drpB spP s) ((41 : UInt8).toNat : Int) = true := ha
      rw [if_neg ha2, if_neg ha]
      dsimp only
      rw [if_neg (by decide), next_s _ (by omega), Option.bind_some]
      cases hn : rdNext (drpB spP s) with
      | none => exact ⟨_, by rw [refN]; dsimp only; rw [if_neg (by decide)], rfl, rfl, Nat.le_refl _⟩
      | some x =>
        obtain ⟨v, l, t⟩ := x
        have h1 := next_lt hn
        simp only [refN, Option.bind_some]
        rw [if_pos trivial]
        by_cases hi : its ≠ []
        · have h2 : (its.length : Int) > 0 := by
            have : 0 < its.length := List.length_pos_iff.2 hi
            omega
          rw [if_pos h2]
          by_cases he : drpB spP s = s
          · rw [if_pos (by rw [he]), if_pos ⟨hi, he⟩]
            exact ⟨_, rfl, rfl, rfl, Nat.le_refl _⟩
          · rw [if_neg (fun e => he (toList_inj.1 e)), if_pos (by omega), if_neg (fun e => he e.2)]
            exact inner_s d t _ k (by omega) (by omega) (by rw [List.length_append, List.length_singleton]; omega) (by omega)
        · have h2 : ¬ (its.length : Int) > 0 := by
            have : its = [] := Classical.not_not.1 hi
            rw [this]; decide
          rw [if_neg h2, if_pos (by omega), if_neg (fun e => hi e.1)]
          exact inner_s d t _ k (by omega) (by omega) (by rw [List.length_append, List.length_singleton]; omega) (by omega)
theorem member_s (s : ByteArray) (hs : s.size ≤ 20000) (k : Nat) (hk : s.size + 1 ≤ k) : ∃ x, sfield_member.f k s = some x ∧ Told 0 x (rdMember s) := by
  unfold sfield_member.f rdMember
  rw [cut_f, Option.bind_some]
  by_cases ha : atF s 40 = true
  · have ha2 : atF s ((40 : UInt8).toNat : Int) = true := ha
    have h0 := atF_pos ha
    rw [if_pos ha2, if_pos ha]
    dsimp only
    rw [if_pos rfl]
    unfold sfield_inner.f
    obtain ⟨x, hx, ht⟩ := inner_s s.size (tl s) [] k (by rw [size_tl]; omega) (by rw [size_tl]; omega) (by rw [size_tl]; simp; omega) (by omega)
    rw [hx, Option.bind_some]
    exact ⟨_, rfl, ht⟩
  · have ha2 : ¬ atF s ((40 : UInt8).toNat : Int) = true := ha
    rw [if_neg ha2, if_neg ha]
    dsimp only
    rw [if_neg (by decide), next_s s (by omega), Option.bind_some]
    cases rdNext s with
    | none => exact ⟨_, rfl, rfl, rfl, Nat.le_refl _⟩
    | some x => exact ⟨_, rfl, rfl⟩
end Go.Proofs.YtjdbiicjfpgjkaaGreatDoor.Pl
/- Chapter 6: lists and dictionaries, as both readers read them. -/
namespace Go.Proofs.YtjdbiicjfpgjkaaGreatDoor.Pl
open Go.RowKit Go.Proofs.YtjdbiicjfpgjkaaGreatDoor.Q Go.Proofs.YtjdbiicjfpgjkaaGreatDoor.Sf Go.Proofs.YtjdbiicjfpgjkaaGreatDoorW.PrintWords Go.Proofs.YtjdbiicjfpgjkaaGreatDoorW.PrintLast
set_option linter.unusedVariables false
set_option linter.unusedSimpArgs false
/-- What stands behind a member, and behind a comma there. -/
def aftR (r : ByteArray) : ByteArray := drpB wsP r
def nxtR (r : ByteArray) : ByteArray := drpB wsP (tl (drpB wsP r))
def rdAll (rd : ByteArray → Option (S34 × ByteArray)) : Nat → ByteArray → Option (List S34)
  | 0, _ => none
  | d + 1, s => if s.toList = [] then some [] else (rd s).bind fun x =>
    if (aftR x.2).toList = [] then some [x.1] else if atF (aftR x.2) 44 = true ∧ (nxtR x.2).toList ≠ [] then (rdAll rd d (nxtR x.2)).bind fun l => some (x.1 :: l) else none
/-- A reader whose rest is less. -/
def Less (rd : ByteArray → Option (S34 × ByteArray)) : Prop := ∀ s m r, rd s = some (m, r) → r.size < s.size ∧ Fit s.size m
theorem less_m : Less rdMember := fun _ _ _ h => member_lt h
theorem aft_size (r : ByteArray) : (aftR r).size ≤ r.size := drp_size _ _
theorem nxt_size (r : ByteArray) : (nxtR r).size ≤ r.size - 1 := by
  have h1 := drp_size wsP (tl (drpB wsP r))
  have h2 := drp_size wsP r
  rw [size_tl] at h1
  show (drpB wsP (tl (drpB wsP r))).size ≤ _
  omega
def cutR (r : ByteArray) : ByteArray × Bool := if atF (aftR r) 44 = true then (tl (aftR r), true) else (aftR r, false)
theorem mem1_eq {nx : ByteArray → Option Ten} {s : ByteArray} {x : Ten} (hx : nx s = some x) (hr : (restOf x).size ≤ 100000) :
    mem1 nx s = some ((memOf x, if errOf x = 0 ∧ (aftR (restOf x)).toList ≠ [] ∧ ((cutR (restOf x)).2 = false ∨ (drpB wsP (cutR (restOf x)).1).toList = []) then 50 else errOf x), drpB wsP (cutR (restOf x)).1, decide ((aftR (restOf x)).toList = [])) := by
  have h1 := aft_size (restOf x)
  have h2 : (cutR (restOf x)).1.size ≤ (restOf x).size := by
    unfold cutR
    split
    · show (tl (aftR (restOf x))).size ≤ _; rw [size_tl]; omega
    · exact h1
  unfold mem1
  rw [hx, Option.bind_some, trimL2_f _ (by omega), Option.bind_some]
  have e1 : strings_CutPrefix.f (drpB wsP (restOf x)) ⟨#[44]⟩ = some (cutR (restOf x)) := cut_f _ 44
  rw [e1, Option.bind_some, trimL2_f _ (by omega), Option.bind_some]
  rfl
def GoodY (ys : List (S34 × Int)) (o : Option (List S34)) : Prop := match o with
  | some l => ys = l.map (fun m => (m, 0))
  | none => ∃ p m, ys = p ++ [(m, 50)] ∧ ∀ y ∈ p, y.2 = (0 : Int)
theorem mems_l {nx : ByteArray → Option Ten} {rd : ByteArray → Option (S34 × ByteArray)} (hl : Less rd) (hR : ∀ s, s.size ≤ 5000 → ∃ x, nx s = some x ∧ Told 5000 x (rd s)) :
    ∀ (d : Nat) (s : ByteArray), s.size < d → s.size ≤ 5000 → ∃ ys, memsL nx d s = some ys ∧ ys.length ≤ s.size + 1 ∧ (∀ y ∈ ys, y.1.f0.size ≤ 5000) ∧ GoodY ys (rdAll rd d s)
  | 0, _, h, _ => absurd h (by omega)
  | d + 1, s, hd, hs => by
    rw [memsL, rdAll]
    by_cases h0 : s.toList = []
    · rw [if_pos h0, if_pos h0]
      exact ⟨_, rfl, Nat.zero_le _, (fun y hy => by cases hy), rfl⟩
    · rw [if_neg h0, if_neg h0]
      obtain ⟨x, hx, ht⟩ := hR s hs
      cases hr : rd s with
      | none =>
        rw [hr] at ht
        obtain ⟨t1, t2, t3⟩ := ht
        rw [mem1_eq hx (by rw [t2]; decide), Option.bind_some]
        dsimp only
        have e1 : (aftR (restOf x)).toList = [] := by rw [t2, L_toList]; unfold aftR; rw [L_drp]; rfl
        rw [if_pos (.inr (by simp [e1])), t1, if_neg (by omega)]
        exact ⟨_, rfl, by simp, fun y hy => by rw [List.mem_singleton.1 hy]; exact t3, [], memOf x, rfl, fun y hy => by cases hy⟩
      | some y =>
        obtain ⟨m, r⟩ := y
        obtain ⟨h1, h2⟩ := hl _ _ _ hr
        rw [hr] at ht
        obtain rfl : x = encM m r := ht
        have hm : (memOf (encM m r)).f0.size ≤ 5000 := Nat.le_trans h2.2.2.2.2 hs
        rw [mem1_eq hx (by show r.size ≤ _; omega), Option.bind_some, Option.bind_some]
        dsimp only
        have e1 : restOf (encM m r) = r := rfl
        have e2 : memOf (encM m r) = m := rfl
        have e3 : errOf (encM m r) = 0 := rfl
        rw [e1, e3]
        rw [e2] at hm ⊢
        by_cases ha : (aftR r).toList = []
        · have hE : (if (0 : Int) = 0 ∧ (aftR r).toList ≠ [] ∧ ((cutR r).2 = false ∨ (drpB wsP (cutR r).1).toList = []) then (50 : Int) else 0) = 0 := if_neg (fun e => e.2.1 ha)
          rw [hE, if_pos (.inr (by simp [ha])), if_pos ha]
          exact ⟨_, rfl, by simp, fun y hy => by rw [List.mem_singleton.1 hy]; exact hm, rfl⟩
        · by_cases hc : atF (aftR r) 44 = true ∧ (nxtR r).toList ≠ []
          · have e4 : cutR r = (tl (aftR r), true) := if_pos hc.1
            have e5 : drpB wsP (cutR r).1 = nxtR r := by rw [e4]; rfl
            have e6 : (cutR r).2 = true := by rw [e4]
            have h3 := nxt_size r
            have hE : (if (0 : Int) = 0 ∧ (aftR r).toList ≠ [] ∧ ((cutR r).2 = false ∨ (drpB wsP (cutR r).1).toList = []) then (50 : Int) else 0) = 0 := if_neg (fun e => e.2.2.elim (fun h => by rw [e6] at h; cases h) (fun h => hc.2 (by rw [← e5]; exact h)))
            rw [hE, e5, if_neg (by simp [ha]), if_pos (by omega), if_neg ha, if_pos hc]
            obtain ⟨ys, i1, i2, i3, i4⟩ := mems_l hl hR d (nxtR r) (by omega) (by omega)
            rw [i1, Option.bind_some]
            refine ⟨_, rfl, by simp only [List.length_cons]; omega, fun y hy => ?_, ?_⟩
            · rcases List.mem_cons.1 hy with rfl | hy
              · exact hm
              · exact i3 y hy
            · cases hq : rdAll rd d (nxtR r) with
              | none =>
                rw [hq] at i4
                obtain ⟨p, m', j1, j2⟩ := i4
                refine ⟨(m, 0) :: p, m', by rw [j1]; rfl, fun y hy => ?_⟩
                rcases List.mem_cons.1 hy with rfl | hy
                · rfl
                · exact j2 y hy
              | some l =>
                rw [hq] at i4
                have i5 : ys = l.map (fun m => (m, 0)) := i4
                rw [i5]
                rfl
          · have e7 : (cutR r).2 = false ∨ (drpB wsP (cutR r).1).toList = [] := by
              unfold cutR
              by_cases hb : atF (aftR r) 44 = true
              · rw [if_pos hb]
                exact .inr (Classical.byContradiction fun e => hc ⟨hb, e⟩)
              · rw [if_neg hb]; exact .inl rfl
            have hE : (if (0 : Int) = 0 ∧ (aftR r).toList ≠ [] ∧ ((cutR r).2 = false ∨ (drpB wsP (cutR r).1).toList = []) then (50 : Int) else 0) = 50 := if_pos ⟨rfl, ha, e7⟩
            rw [hE, if_pos (.inl (by decide)), if_neg ha, if_neg hc]
            exact ⟨_, rfl, by simp, fun y hy => by rw [List.mem_singleton.1 hy]; exact hm, [], m, rfl, fun y hy => by cases hy⟩
theorem find_bad (p : List (S34 × Int)) (m : S34) (h : ∀ y ∈ p, y.2 = (0 : Int)) : (p ++ [(m, 50)]).find? (fun y => y.2 != 0) = some (m, 50) := by
  rw [List.find?_append]
  have e : p.find? (fun y => y.2 != 0) = none := by
    rw [List.find?_eq_none]
    intro y hy
    simp [h y hy]
  rw [e]
  rfl
theorem find_good (l : List S34) : (l.map (fun m => (m, (0 : Int)))).find? (fun y => y.2 != 0) = none := by
  rw [List.find?_eq_none]
  intro y hy
  obtain ⟨m, _, rfl⟩ := List.mem_map.1 hy
  simp
def outL (o : Option (List S34)) : (List S34) × Int := match o with | some l => (l, 0) | none => ([], 50)
theorem gather_l {ys : List (S34 × Int)} {o : Option (List S34)} (h : GoodY ys o) : gatherL ys = outL o := by
  unfold gatherL
  cases o with
  | none => obtain ⟨p, m, rfl, hp⟩ := h; rw [find_bad p m hp]; rfl
  | some l =>
    obtain rfl : ys = l.map (fun m => (m, 0)) := h
    rw [find_good]
    simp [outL, Function.comp_def]
/-- A field's members. -/
def rdTop (rd : ByteArray → Option (S34 × ByteArray)) (k : Nat) (s : ByteArray) : Option (List S34) := if (s.size : Int) > 4000 then none else rdAll rd k (trimSp s)
theorem trim_size (s : ByteArray) : (trimSp s).size ≤ s.size := by
  have := trim_len (L s)
  rw [size_L, size_L]
  show (L ⟨(Lib.trimB (L s) 32).toArray⟩).length ≤ _
  simpa [L] using this
theorem top_l {nx : ByteArray → Option Ten} {rd : ByteArray → Option (S34 × ByteArray)} (hl : Less rd) (hR : ∀ s, s.size ≤ 5000 → ∃ x, nx s = some x ∧ Told 5000 x (rd s)) (k : Nat) (hk : 5000 < k) (s : ByteArray) (hs : s.size ≤ 5000) :
    ∃ ys, membersF nx k s = some ys ∧ ys.length ≤ 1000000 ∧ (∀ y ∈ ys, y.1.f0.size ≤ 281474976710656) ∧ GoodY ys (rdTop rd k s) := by
  unfold membersF rdTop
  split
  · exact ⟨_, rfl, by simp, fun y hy => by rw [List.mem_singleton.1 hy]; exact Nat.zero_le _, [], _, rfl, fun y hy => by cases hy⟩
  · have h1 := trim_size s
    obtain ⟨ys, i1, i2, i3, i4⟩ := mems_l hl hR k (trimSp s) (by omega) (by omega)
    exact ⟨ys, i1, by omega, fun y hy => Nat.le_trans (i3 y hy) (by decide), i4⟩
theorem list_f (s : ByteArray) (hs : s.size ≤ 5000) (k : Nat) (hk : 6000 < k) : sfield_List.f k s = some (outL (rdTop rdMember k s)) := by
  obtain ⟨ys, h1, h2, _, h4⟩ := top_l (nx := sfield_member.f k) less_m (fun s hs => by
    obtain ⟨x, hx, ht⟩ := member_s s (by omega) k (by omega)
    refine ⟨x, hx, ?_⟩
    cases hm : rdMember s with
    | none => rw [hm] at ht; exact ⟨ht.1, ht.2.1, Nat.le_trans ht.2.2 (Nat.zero_le _)⟩
    | some y => rw [hm] at ht; exact ht) k (by omega) s hs
  unfold sfield_List.f
  rw [h1, Option.bind_some, if_pos h2, gather_l h4]
end Go.Proofs.YtjdbiicjfpgjkaaGreatDoor.Pl
/- Chapter 6: members are the same as themselves. -/
namespace Go.Proofs.YtjdbiicjfpgjkaaGreatDoor.Pl
open Go.RowKit Go.Proofs.YtjdbiicjfpgjkaaGreatDoor.Q Go.Proofs.YtjdbiicjfpgjkaaGreatDoor.Sf Go.Proofs.YtjdbiicjfpgjkaaGreatDoorW.PrintWords Go.Proofs.YtjdbiicjfpgjkaaGreatDoorW.PrintLast
set_option linter.unusedVariables false
set_option linter.unusedSimpArgs false
theorem rd_item (l : List S31) (j : Nat) (h : j < l.length) : rd_T31 l (j : Int) = l[j] := by simp [rd_T31, List.getD_eq_getElem?_getD, h]
theorem rd_memb (l : List S34) (j : Nat) (h : j < l.length) : rd_T34 l (j : Int) = l[j] := by simp [rd_T34, List.getD_eq_getElem?_getD, h]
theorem params_refl (l : List S60) (hl : l.length ≤ 100000) (k : Nat) (hk : l.length < k) : glacisref05_SameParams.f k l l = some true := by
  unfold glacisref05_SameParams.f
  rw [if_pos rfl]
  exact same_loop l hl l.length 0 k (by omega) hk
theorem items_loop (l : List S31) (hl : l.length ≤ 20000) (hf : ∀ i ∈ l, i.f3.length ≤ 20000) : ∀ (m j k : Nat), j + m = l.length → m + 20001 < k → glacisref06_items.l0 k l l (j : Int) = some true
  | 0, j, k, hm, hk => by
    obtain ⟨k, rfl⟩ : ∃ k', k = k' + 1 := ⟨k - 1, by omega⟩
    rw [glacisref06_items.l0, if_neg (by omega)]
  | m + 1, j, k, hm, hk => by
    obtain ⟨k, rfl⟩ : ∃ k', k = k' + 1 := ⟨k - 1, by omega⟩
    have hj : j < l.length := by omega
    have h1 := hf _ (List.getElem_mem hj)
    rw [glacisref06_items.l0, if_pos (by omega), if_pos (by omega), if_pos (by omega), rd_item l j hj, same_refl _ (by omega) _ _ _ k (by omega), Option.bind_some, if_pos rfl, wrap_next j (by omega)]
    exact items_loop l hl hf m (j + 1) k (by omega) (by omega)
theorem items_refl (l : List S31) (hl : l.length ≤ 20000) (hf : ∀ i ∈ l, i.f3.length ≤ 20000) (k : Nat) (hk : 50000 < k) : glacisref06_items.f k l l = some true := by
  unfold glacisref06_items.f
  rw [if_pos rfl]
  exact items_loop l hl hf l.length 0 k (by omega) (by omega)
theorem membs_refl (l : List S34) (hl : l.length ≤ 20000) (hf : ∀ m ∈ l, Fit 20000 m) (k : Nat) (hk : 80000 < k) : glacisref06_Same.f k l l = some true := by
  unfold glacisref06_Same.f
  refine if_pos ⟨rfl, by omega, fun j hj => ?_⟩
  obtain ⟨h1, h2, h3, h4, h5⟩ := hf _ (List.getElem_mem hj)
  rw [rd_memb l j hj]
  unfold okM
  rw [same_refl _ (by omega) _ _ _ k (by omega), items_refl _ h2 h4 k (by omega), params_refl _ (by omega) k (by omega)]
  simp
end Go.Proofs.YtjdbiicjfpgjkaaGreatDoor.Pl
/- Chapter 6: what text tells what members; such a text is read as them, and what is read is such a text. -/
namespace Go.Proofs.YtjdbiicjfpgjkaaGreatDoor.Pl
open Go.RowKit Go.Proofs.YtjdbiicjfpgjkaaGreatDoor.Q Go.Proofs.YtjdbiicjfpgjkaaGreatDoor.Sf Go.Proofs.YtjdbiicjfpgjkaaGreatDoorW.PrintWords Go.Proofs.YtjdbiicjfpgjkaaGreatDoorW.PrintLast
set_option linter.unusedVariables false
set_option linter.unusedSimpArgs false
/-- What may stand behind an item's text. -/
def Stop (r : List UInt8) : Prop := ∀ c r', r = c :: r' → Endc c = true ∧ c ≠ 59
theorem Stop.nil : Stop [] := fun _ _ h => by cases h
theorem Stop.cons {c : UInt8} (h : Endc c = true) (h2 : c ≠ 59) (r : List UInt8) : Stop (c :: r) := fun _ _ e => by cases e; exact ⟨h, h2⟩
theorem Stop.ends {r : List UInt8} (h : Stop r) : Ends r := fun c r' e => (h c r' e).1
theorem pt_reads {u : List UInt8} {l l1 : List S60} (h : PT u l l1) (r : List UInt8) (hr : Stop r) : ∀ (d : Nat) (s : ByteArray), u.length < d → L s = u ++ r → pF d s l = some (l1, B r) := by
  induction h with
  | nil l =>
    intro d s hd e
    obtain ⟨d, rfl⟩ : ∃ d', d = d' + 1 := ⟨d - 1, by simp at hd; omega⟩
    have e0 : L s = r := e
    have a : atF s 59 = false := by
      cases hu : r with
      | nil => exact atF_nil (e0.trans hu) 59
      | cons x r' => rw [atF_cons (e0.trans hu)]; exact decide_eq_false (fun k => (hr x r' hu).2 (u_eq k))
    rw [pF, a, if_neg (by decide)]
    have : s = B r := L_inj (by rw [e0, L_B])
    rw [this]
  | flag b k u l l1 hb hk h ih =>
    intro d s hd e
    obtain ⟨d, rfl⟩ : ∃ d', d = d' + 1 := ⟨d - 1, by simp at hd; omega⟩
    have e0 : L s = 59 :: (b ++ (k ++ (u ++ r))) := by rw [e]; simp
    have e1 : L (tl s) = b ++ (k ++ (u ++ r)) := by rw [L_tl, e0]; rfl
    have he : Ends (u ++ r) := h.ends.app hr.ends
    rw [pF, atF_cons e0, if_pos (by decide), key_read k (u ++ r) hk (he.not keyU_59) _ (spaces b k _ hb hk _ e1)]
    simp only [Option.bind_some]
    have a : atF (B (u ++ r)) 61 = false := by
      cases hu : u ++ r with
      | nil => exact atF_nil (L_B []) 61
      | cons x u' => rw [atF_cons (L_B (x :: u'))]; exact decide_eq_false (end_ne x (he x u' hu)).2
    rw [a, if_neg (by decide)]
    exact ih d (B (u ++ r)) (by simp at hd; omega) (L_B _)
  | val b k w u n i t l l1 hb hk hv h ih =>
    intro d s hd e
    obtain ⟨d, rfl⟩ : ∃ d', d = d' + 1 := ⟨d - 1, by simp at hd; omega⟩
    have e0 : L s = 59 :: (b ++ (k ++ (61 :: (w ++ (u ++ r))))) := by rw [e]; simp
    have e1 : L (tl s) = b ++ (k ++ (61 :: (w ++ (u ++ r)))) := by rw [L_tl, e0]; rfl
    rw [pF, atF_cons e0, if_pos (by decide), key_read k (61 :: (w ++ (u ++ r))) hk (fun c r' h => by cases h; decide +kernel) _ (spaces b k _ hb hk _ e1)]
    simp only [Option.bind_some]
    rw [atF_cons (L_B (61 :: (w ++ (u ++ r)))), if_pos (by decide), value_read hv (u ++ r) (h.ends.app hr.ends) _ (by rw [L_tl, L_B]; rfl)]
    simp only [Option.bind_some]
    exact ih d (B (u ++ r)) (by simp at hd; omega) (L_B _)
theorem params_reads {u : List UInt8} {l : List S60} (h : PT u [] l) (r : List UInt8) (hr : Stop r) (s : ByteArray) (e : L s = u ++ r) : rdParams s = some (l, B r) := by
  unfold rdParams
  exact pt_reads h r hr _ s (by rw [size_L, e, List.length_append]; omega) e
theorem next_reads {u : List UInt8} {n i : Int} {t : List UInt8} {l : List S60} (h : IT u n i t l) (r : List UInt8) (hr : Stop r) (s : ByteArray) (e : L s = u ++ r) : rdNext s = some ((n, i, B t), l, B r) := by
  obtain ⟨a, b, rfl, hv, hp⟩ := h
  unfold rdNext
  rw [value_read hv (b ++ r) (hp.ends.app hr.ends) s (by rw [e]; simp)]
  simp only [Option.bind_some]
  rw [params_reads hp r hr (B (b ++ r)) (L_B _)]
  rfl
def Beg (c : UInt8) : Bool := !(Endc c) && !(decide (c = 40))
theorem beg_all {P : UInt8 → Bool} (h : (List.range 256).all (fun n => !(P (UInt8.ofNat n)) || Beg (UInt8.ofNat n)) = true) (c : UInt8) (hc : P c = true) : Beg c = true := by
  have := allU (fun c => !(P c) || Beg c) h c
  simpa [hc] using this
theorem beg_dg (c : UInt8) (h : dgU c = true) : Beg c = true := beg_all (P := dgU) (by decide +kernel) c h
theorem beg_to (c : UInt8) (h : toU c = true) : Beg c = true := beg_all (P := toU) (by decide +kernel) c h
theorem vt_head {u : List UInt8} {n i : Int} {t : List UInt8} (h : VT u n i t) : ∃ c u', u = c :: u' ∧ Beg c = true := by
  cases h with
  | int sg w h0 h1 h2 h3 =>
    rcases h0 with rfl | rfl
    · obtain ⟨c, w', rfl⟩ := List.exists_cons_of_ne_nil h1
      exact ⟨c, w', rfl, beg_dg c (h2 c (List.mem_cons_self ..))⟩
    · exact ⟨45, w, rfl, by decide⟩
  | dec sg w p h0 h1 h2 h3 h4 h5 h6 =>
    rcases h0 with rfl | rfl
    · obtain ⟨c, w', rfl⟩ := List.exists_cons_of_ne_nil h1
      exact ⟨c, w' ++ 46 :: p, rfl, beg_dg c (h2 c (List.mem_cons_self ..))⟩
    · exact ⟨45, w ++ 46 :: p, rfl, by decide⟩
  | tok c w h0 h1 => exact ⟨c, w, rfl, beg_to c (h1 c (List.mem_cons_self ..))⟩
  | quo q t h => exact ⟨34, q, rfl, by decide⟩
  | byt h => exact ⟨58, _, rfl, by decide⟩
  | one => exact ⟨63, _, rfl, by decide⟩
  | zero => exact ⟨63, _, rfl, by decide⟩
theorem IT.head {u : List UInt8} {n i : Int} {t : List UInt8} {l : List S60} (h : IT u n i t l) : ∃ c u', u = c :: u' ∧ Beg c = true := by
  obtain ⟨a, b, rfl, hv, hp⟩ := h
  obtain ⟨c, a', rfl, hc⟩ := vt_head hv
  exact ⟨c, a' ++ b, rfl, hc⟩
theorem IT.last {u : List UInt8} {n i : Int} {t : List UInt8} {l : List S60} (h : IT u n i t l) : Last0 u := by
  obtain ⟨a, b, rfl, hv, hp⟩ := h
  rcases pt_last hp with rfl | k
  · simpa using vt_last hv
  · exact k.cons _
theorem beg_ne {c : UInt8} (h : Beg c = true) : c ≠ 32 ∧ c ≠ 9 ∧ c ≠ 41 ∧ c ≠ 40 ∧ c ≠ 44 ∧ c ≠ 59 := by
  refine ⟨?_, ?_, ?_, ?_, ?_, ?_⟩ <;> (rintro rfl; revert h; decide)
def ITm (u : List UInt8) (x : S31) : Prop := IT u x.f0 x.f1 (L x.f2) x.f3
theorem itm_eta (x : S31) : itm (x.f0, x.f1, B (L x.f2)) x.f3 = x := by unfold itm; rw [B_L]
/-- What text, behind a bracket, tells what more items, and what parameters. -/
inductive NT : List UInt8 → List S31 → List S31 → List S60 → Prop
  | shut (b p : List UInt8) (its : List S31) (l : List S60) (hb : ∀ c ∈ b, c = 32) (hp : PT p [] l) : NT (b ++ 41 :: p) its its l
  | item (b u v : List UInt8) (x : S31) (its its' : List S31) (l : List S60) (hb : ∀ c ∈ b, c = 32) (h1 : its ≠ [] → b ≠ []) (hu : ITm u x) (h : NT v (its ++ [x]) its' l) : NT (b ++ (u ++ v)) its its' l
theorem NT.stop {v : List UInt8} {its its' : List S31} {l : List S60} (h : NT v its its' l) (hi : its ≠ []) (r : List UInt8) : Stop (v ++ r) := by
  cases h with
  | shut b p _ _ hb hp =>
    cases b with
    | nil => exact Stop.cons (by decide) (by decide) _
    | cons c b => rw [hb c (List.mem_cons_self ..)]; exact Stop.cons (by decide) (by decide) _
  | item b u v x _ _ _ hb h1 hu h =>
    cases b with
    | nil => exact absurd rfl (h1 hi)
    | cons c b => rw [hb c (List.mem_cons_self ..)]; exact Stop.cons (by decide) (by decide) _
theorem NT.last {v : List UInt8} {its its' : List S31} {l : List S60} (h : NT v its its' l) : Last0 v := by
  induction h with
  | shut b p its l hb hp =>
    rcases pt_last hp with rfl | k
    · exact ⟨b, 41, rfl, by decide⟩
    · have := k.cons (b ++ [41]); simpa using this
  | item b u v x its its' l hb h1 hu h ih => have := ih.cons (b ++ u); simpa using this
theorem drp_sp {s : ByteArray} (b : List UInt8) (c : UInt8) (r : List UInt8) (hb : ∀ x ∈ b, x = 32) (hc : c ≠ 32) (e : L s = b ++ c :: r) : L (drpB spP s) = c :: r := by
  rw [L_drp, e]
  refine (takeW_app (fun c : UInt8 => spP c.toNat) b (c :: r) (fun x hx => by rw [hb x hx]; decide) (fun c' r' h => ?_)).2
  obtain ⟨rfl, _⟩ := List.cons.inj h
  unfold spP
  rw [beq_eq_false_iff_ne]
  intro k
  exact hc (u_eq k)
theorem at_not {s : ByteArray} {c : UInt8} {r : List UInt8} (e : L s = c :: r) (n : UInt8) (h : c ≠ n) : ¬ atF s (n.toNat : Int) = true := by
  rw [atF_cons e]
  intro k
  exact h (u_eq (of_decide_eq_true k))
theorem inner_reads {u : List UInt8} {its its' : List S31} {l : List S60} (h : NT u its its' l) (r : List UInt8) (hr : Stop r) : ∀ (d : Nat) (s : ByteArray), u.length ≤ d → L s = u ++ r → rdInner d s its = some ((its', l), B r) := by
  induction h with
  | shut b p its l hb hp =>
    intro d s hd e
    obtain ⟨d, rfl⟩ : ∃ d', d = d' + 1 := ⟨d - 1, by simp at hd; omega⟩
    have e1 : L (drpB spP s) = 41 :: (p ++ r) := drp_sp b 41 (p ++ r) hb (by decide) (by rw [e]; simp)
    rw [rdInner, if_pos (by rw [atF_cons e1]; rfl), params_reads hp r hr _ (by rw [L_tl, e1]; rfl)]
    rfl
  | item b u v x its its' l hb h1 hu h ih =>
    intro d s hd e
    obtain ⟨c, u', hcu, hc⟩ := IT.head hu
    have hne := beg_ne hc
    obtain ⟨d, rfl⟩ : ∃ d', d = d' + 1 := ⟨d - 1, by rw [hcu] at hd; simp at hd; omega⟩
    have e0 : L s = b ++ c :: (u' ++ (v ++ r)) := by rw [e, hcu]; simp
    have e1 : L (drpB spP s) = c :: (u' ++ (v ++ r)) := drp_sp b c _ hb hne.1 e0
    have e2 : L (drpB spP s) = u ++ (v ++ r) := by rw [e1, hcu]; rfl
    rw [rdInner, if_neg (show ¬ atF (drpB spP s) 41 = true from at_not e1 41 hne.2.2.1), next_reads hu (v ++ r) (h.stop (by simp) r) _ e2, Option.bind_some, itm_eta, if_neg]
    · exact ih d (B (v ++ r)) (by rw [hcu] at hd; simp only [List.length_append, List.length_cons] at hd; omega) (L_B _)
    · rintro ⟨hi, hs⟩
      rw [hs, e0] at e1
      have := congrArg List.length e1
      have hb2 : 0 < b.length := List.length_pos_iff.2 (h1 hi)
      simp only [List.length_append, List.length_cons] at this
      omega
theorem sp_split (s : ByteArray) : ∃ b, L s = b ++ L (drpB spP s) ∧ ∀ c ∈ b, c = 32 := by
  refine ⟨(L s).takeWhile (fun c : UInt8 => spP c.toNat), ?_, ?_⟩
  · rw [L_drp]; exact (span_split _ _).symm
  · intro c hc
    have := all_of_take (q := fun c : UInt8 => spP c.toNat) (L s) c hc
    unfold spP at this
    exact u_eq (beq_iff_eq.1 this)
theorem inner_inv : ∀ (d : Nat) (s : ByteArray) (its its' : List S31) (l : List S60) (r : ByteArray), rdInner d s its = some ((its', l), r) → ∃ u, L s = u ++ L r ∧ NT u its its' l
  | 0, _, _, _, _, _, h => by cases h
  | d + 1, s, its, its', l, r, h => by
    obtain ⟨b, hb1, hb2⟩ := sp_split s
    rw [rdInner] at h
    split at h
    · rename_i ha
      obtain ⟨⟨l2, t⟩, hp, h⟩ := Option.bind_eq_some_iff.1 h
      obtain ⟨h1, rfl⟩ := Prod.mk.inj (Option.some.inj h)
      obtain ⟨rfl, rfl⟩ := Prod.mk.inj h1
      obtain ⟨c, t, e1, e2⟩ := atF_ex ha
      obtain rfl : c = 41 := u_eq e2
      unfold rdParams at hp
      obtain ⟨p, p1, p2, _⟩ := pt_inv _ _ _ _ _ hp
      rw [L_tl, e1] at p1
      have p1 : t = p ++ _ := p1
      refine ⟨b ++ 41 :: p, ?_, NT.shut b p _ _ hb2 p2⟩
      rw [hb1, e1, p1]
      simp
    · obtain ⟨⟨v, l2, t⟩, hp, h⟩ := Option.bind_eq_some_iff.1 h
      split at h
      · cases h
      · rename_i hn
        obtain ⟨u, u1, u2, _⟩ := next_inv hp
        obtain ⟨w, w1, w2⟩ := inner_inv d _ _ _ _ _ h
        dsimp only at u1 w1 w2
        refine ⟨b ++ (u ++ w), ?_, NT.item b u w (itm v l2) _ _ _ hb2 (fun hi hb => hn ⟨hi, ?_⟩) u2 w2⟩
        · rw [hb1, u1, w1]; simp
        · rw [hb, List.nil_append] at hb1
          exact L_inj hb1.symm
/-- What text tells what member of a list. -/
inductive MT : List UInt8 → S34 → Prop
  | inn (u : List UInt8) (its : List S31) (l : List S60) (h : NT u [] its l) : MT (40 :: u) (mIn its l)
  | itm (u : List UInt8) (x : S31) (h : ITm u x) : MT u (mIt x)
theorem member_reads {u : List UInt8} {m : S34} (h : MT u m) (r : List UInt8) (hr : Stop r) (s : ByteArray) (e : L s = u ++ r) : rdMember s = some (m, B r) := by
  unfold rdMember
  cases h with
  | inn u its l h =>
    have e1 : L s = 40 :: (u ++ r) := e
    rw [if_pos (by rw [atF_cons e1]; rfl), inner_reads h r hr s.size (tl s) (by rw [size_L, e1]; simp; omega) (by rw [L_tl, e1]; rfl)]
    rfl
  | itm _ x h =>
    obtain ⟨c, u', hcu, hc⟩ := IT.head h
    have e1 : L s = c :: (u' ++ r) := by rw [e, hcu]; rfl
    rw [if_neg (show ¬ atF s 40 = true from at_not e1 40 (beg_ne hc).2.2.2.1), next_reads h r hr s e, Option.bind_some, itm_eta]
theorem member_inv {s : ByteArray} {m : S34} {r : ByteArray} (h : rdMember s = some (m, r)) : ∃ u, L s = u ++ L r ∧ MT u m := by
  unfold rdMember at h
  split at h
  · rename_i ha
    obtain ⟨⟨⟨its, l⟩, t⟩, hp, h⟩ := Option.bind_eq_some_iff.1 h
    obtain ⟨rfl, rfl⟩ := Prod.mk.inj (Option.some.inj h)
    obtain ⟨c, t, e1, e2⟩ := atF_ex ha
    obtain rfl : c = 40 := u_eq e2
    obtain ⟨u, u1, u2⟩ := inner_inv _ _ _ _ _ _ hp
    rw [L_tl, e1] at u1
    have u1 : t = u ++ _ := u1
    exact ⟨40 :: u, by rw [e1, u1]; rfl, MT.inn u _ _ u2⟩
  · obtain ⟨⟨v, l, t⟩, hp, h⟩ := Option.bind_eq_some_iff.1 h
    obtain ⟨rfl, rfl⟩ := Prod.mk.inj (Option.some.inj h)
    obtain ⟨u, u1, u2, _⟩ := next_inv hp
    exact ⟨u, u1, MT.itm u (itm v l) u2⟩
theorem ws_not {c : UInt8} (h1 : c ≠ 32) (h2 : c ≠ 9) : wsP c.toNat = false := by
  unfold wsP
  rw [Bool.or_eq_false_iff, beq_eq_false_iff_ne, beq_eq_false_iff_ne]
  exact ⟨fun k => h1 (u_eq k), fun k => h2 (u_eq k)⟩
theorem MT.head {u : List UInt8} {m : S34} (h : MT u m) : ∃ c u', u = c :: u' ∧ wsP c.toNat = false ∧ c ≠ 32 := by
  cases h with
  | inn u its l h => exact ⟨40, u, rfl, by decide, by decide⟩
  | itm _ x h =>
    obtain ⟨c, u', e, hc⟩ := IT.head h
    exact ⟨c, u', e, ws_not (beg_ne hc).1 (beg_ne hc).2.1, (beg_ne hc).1⟩
theorem MT.last {u : List UInt8} {m : S34} (h : MT u m) : Last0 u := by
  cases h with
  | inn u its l h => exact h.last.cons [40]
  | itm _ x h => exact IT.last h
/-- A reader, and what text tells what member. -/
structure Tellsm (rd : ByteArray → Option (S34 × ByteArray)) (R : List UInt8 → S34 → Prop) : Prop where
  reads : ∀ u m, R u m → ∀ r, Stop r → ∀ s, L s = u ++ r → rd s = some (m, B r)
  inv : ∀ s m r, rd s = some (m, r) → ∃ u, L s = u ++ L r ∧ R u m
  head : ∀ u m, R u m → ∃ c u', u = c :: u' ∧ wsP c.toNat = false ∧ c ≠ 32
  last : ∀ u m, R u m → Last0 u
theorem tells_m : Tellsm rdMember MT := ⟨fun _ _ h r hr s e => member_reads h r hr s e, fun _ _ _ h => member_inv h, fun _ _ h => h.head, fun _ _ h => h.last⟩
def Ws (w : List UInt8) : Prop := ∀ c ∈ w, wsP c.toNat = true
theorem Ws.nil : Ws [] := fun _ h => by cases h
theorem ws_end {c : UInt8} (h : wsP c.toNat = true) : Endc c = true ∧ c ≠ 59 := by
  have := allU (fun c => !(wsP c.toNat) || (Endc c && decide (c ≠ 59))) (by decide +kernel) c
  simpa [h] using this
theorem Ws.stop {w : List UInt8} (h : Ws w) {r : List UInt8} (hr : Stop r) : Stop (w ++ r) := by
  cases w with
  | nil => exact hr
  | cons c w => intro c' r' e; obtain ⟨rfl, _⟩ := List.cons.inj e; exact ws_end (h c (List.mem_cons_self ..))
/-- What text tells what members. -/
inductive LT (R : List UInt8 → S34 → Prop) : List UInt8 → List S34 → Prop
  | one (u : List UInt8) (m : S34) (w : List UInt8) (h : R u m) (hw : Ws w) : LT R (u ++ w) [m]
  | more (u : List UInt8) (m : S34) (w1 w2 v : List UInt8) (ms : List S34) (h : R u m) (hw1 : Ws w1) (hw2 : Ws w2) (hv : LT R v ms) : LT R (u ++ (w1 ++ (44 :: (w2 ++ v)))) (m :: ms)
variable {rd : ByteArray → Option (S34 × ByteArray)} {R : List UInt8 → S34 → Prop}
theorem LT.head (hT : Tellsm rd R) {u : List UInt8} {ms : List S34} (h : LT R u ms) : ∃ c u', u = c :: u' ∧ wsP c.toNat = false ∧ c ≠ 32 := by
  cases h with
  | one u m w h hw => obtain ⟨c, u', rfl, hc⟩ := hT.head _ _ h; exact ⟨c, _, rfl, hc⟩
  | more u m w1 w2 v ms h => obtain ⟨c, u', rfl, hc⟩ := hT.head _ _ h; exact ⟨c, _, rfl, hc⟩
theorem drp_ws {s : ByteArray} (w r : List UInt8) (hw : Ws w) (hr : ∀ c r', r = c :: r' → wsP c.toNat = false) (e : L s = w ++ r) : L (drpB wsP s) = r := by
  rw [L_drp, e]
  exact (takeW_app (fun c : UInt8 => wsP c.toNat) w r hw hr).2
theorem all_reads (hT : Tellsm rd R) {u : List UInt8} {ms : List S34} (h : LT R u ms) : ∀ (d : Nat) (s : ByteArray), u.length < d → L s = u → rdAll rd d s = some ms := by
  induction h with
  | one u m w h hw =>
    intro d s hd e
    obtain ⟨d, rfl⟩ : ∃ d', d = d' + 1 := ⟨d - 1, by omega⟩
    obtain ⟨c, u', hcu, hc⟩ := hT.head _ _ h
    have ea : L (aftR (B w)) = [] := drp_ws w [] hw (fun c r' e => by cases e) (by rw [L_B]; simp)
    rw [rdAll, if_neg (by rw [L_toList, e, hcu]; simp), hT.reads _ _ h w (by have := hw.stop Stop.nil; simpa using this) s e, Option.bind_some, if_pos (by rw [L_toList]; exact ea)]
  | more u m w1 w2 v ms h hw1 hw2 hv ih =>
    intro d s hd e
    obtain ⟨d, rfl⟩ : ∃ d', d = d' + 1 := ⟨d - 1, by omega⟩
    obtain ⟨c, u', hcu, hc⟩ := hT.head _ _ h
    obtain ⟨c2, v', hcv, hc2, _⟩ := LT.head hT hv
    have ea : L (aftR (B (w1 ++ (44 :: (w2 ++ v))))) = 44 :: (w2 ++ v) := drp_ws w1 _ hw1 (fun c r' e => by cases e; decide) (L_B _)
    have en : L (nxtR (B (w1 ++ (44 :: (w2 ++ v))))) = v := by
      refine drp_ws w2 v hw2 (fun c r' e => ?_) ?_
      · rw [hcv] at e; obtain ⟨rfl, _⟩ := List.cons.inj e; exact hc2
      · rw [L_tl]; show (L (aftR _)).tail = _; rw [ea]; rfl
    rw [rdAll, if_neg (by rw [L_toList, e, hcu]; simp), hT.reads _ _ h (w1 ++ (44 :: (w2 ++ v))) (hw1.stop (Stop.cons (by decide) (by decide) _)) s e, Option.bind_some,
      if_neg (by rw [L_toList, ea]; simp), if_pos ⟨by rw [atF_cons ea]; rfl, by rw [L_toList, en, hcv]; simp⟩,
      ih d _ (by simp only [List.length_append, List.length_cons] at hd; omega) en, Option.bind_some]
theorem trim_L (s : ByteArray) : L (trimSp s) = Lib.trimB (L s) 32 := by unfold trimSp L; simp
def Bl (b : List UInt8) : Prop := ∀ c ∈ b, c = 32
theorem drop_bl (b u : List UInt8) (hb : Bl b) : (b ++ u).dropWhile (fun c => c == 32) = u.dropWhile (fun c => c == 32) := by
  induction b with
  | nil => rfl
  | cons c b ih =>
    rw [List.cons_append, List.dropWhile_cons, if_pos (by rw [hb c (List.mem_cons_self ..)]; decide)]
    exact ih (fun x hx => hb x (List.mem_cons_of_mem _ hx))
theorem trim_mid (a u b : List UInt8) (ha : Bl a) (hb : Bl b) (hu : ∃ c u', u = c :: u' ∧ c ≠ 32) (hl : Last0 u) : Lib.trimB (a ++ (u ++ b)) 32 = u := by
  have h1 : Lib.trimRightB (a ++ (u ++ b)) 32 = a ++ u := by
    obtain ⟨w, x, rfl, hx⟩ := hl
    unfold Lib.trimRightB
    rw [List.reverse_append, List.reverse_append, List.append_assoc]
    have := drop_bl b.reverse ((w ++ [x]).reverse ++ a.reverse) (fun c hc => hb c (List.mem_reverse.1 hc))
    rw [show (fun c : UInt8 => c == 32) = (· == 32) from rfl] at this
    rw [this, List.reverse_append, List.reverse_singleton, List.singleton_append, List.cons_append, List.dropWhile_cons, if_neg (by simpa using hx)]
    simp
  unfold Lib.trimB
  rw [h1]
  unfold Lib.trimLeftB
  have := drop_bl a u ha
  rw [show (fun c : UInt8 => c == 32) = (· == 32) from rfl] at this
  obtain ⟨c, u', rfl, hc⟩ := hu
  rw [this, List.dropWhile_cons, if_neg (by simpa using hc)]
/-- A field's members, told by its text. -/
theorem top_read (hT : Tellsm rd R) {s : ByteArray} {ms : List S34} (h : LT R (Lib.trimB (L s) 32) ms) (k : Nat) (hk : 4000 < k) (hs : s.size ≤ 4000) : rdTop rd k s = some ms := by
  unfold rdTop
  rw [if_neg (by omega)]
  have := trim_size s
  exact all_reads hT h k (trimSp s) (by rw [← trim_L, ← size_L]; omega) (trim_L s)
theorem LT.head32 (hT : Tellsm rd R) {u : List UInt8} {ms : List S34} (h : LT R u ms) : ∃ c u', u = c :: u' ∧ c ≠ 32 := by
  obtain ⟨c, u', e, _, hc⟩ := LT.head hT h
  exact ⟨c, u', e, hc⟩
end Go.Proofs.YtjdbiicjfpgjkaaGreatDoor.Pl
/- Chapter 5: any value, any parameters and any item of few short texts have an answer; what they tell is read as itself. -/
namespace Go.Proofs.YtjdbiicjfpgjkaaGreatDoor.Pl
open Go.RowKit Go.Proofs.YtjdbiicjfpgjkaaGreatDoor.Q Go.Proofs.YtjdbiicjfpgjkaaGreatDoor.Sf Go.Proofs.YtjdbiicjfpgjkaaGreatDoorW.PrintWords Go.Proofs.YtjdbiicjfpgjkaaGreatDoorW.PrintLast
set_option linter.unusedVariables false
set_option linter.unusedSimpArgs false
theorem whole_any (s : ByteArray) (m : Int) (hz : s.size ≤ 2199023255552) : ∃ b, sfitem_whole.f s m = some b := by
  unfold sfitem_whole.f sfitem_Next.f
  rw [if_pos hz]
  cases rdNext s with
  | none => exact ⟨false, by simp⟩
  | some x =>
    obtain ⟨v, l, t⟩ := x
    simp only [Option.bind_some]
    rw [if_pos trivial]
    split
    · split
      · exact ⟨_, rfl⟩
      · exact ⟨_, rfl⟩
    · exact ⟨_, rfl⟩
theorem itoa_len (i : Int) (h : -999999999999999 ≤ i ∧ i ≤ 999999999999999) : (itoaBA i).size ≤ 16 := by
  rw [size_L, itoa_L, List.length_append]
  have h1 : (sgO i).length ≤ 1 := by unfold sgO; split <;> simp
  have h2 := dec_len 14 i.natAbs (by omega)
  omega
theorem dec_size (i : Int) (h : -999999999999999 ≤ i ∧ i ≤ 999999999999999) : (decB i).size ≤ 20 := by
  rw [size_L, dec_L, List.length_append, List.length_append, List.length_cons]
  have h1 : (sgO i).length ≤ 1 := by unfold sgO; split <;> simp
  have h2 := dec_len 11 (i.natAbs / 1000) (by omega)
  have h3 := (fr_at (i.natAbs % 1000) (by omega)).2.2.1
  omega
/-- Any value has an answer, of at most so many bytes. -/
theorem value_any (k : ByteArray) (n i : Int) (t : ByteArray) (ht : t.size ≤ 1000) : ∃ o b, sfitem_value.f k n i t = some (o, b) ∧ o.size ≤ 2 * t.size + 20 := by
  have z0 : (⟨#[]⟩ : ByteArray).size = 0 := rfl
  unfold sfitem_value.f
  rw [if_neg (by omega)]
  by_cases hi : i < -999999999999999 ∨ 999999999999999 < i
  · rw [if_pos hi]; exact ⟨_, _, rfl, by omega⟩
  rw [if_neg hi]
  have hi' : -999999999999999 ≤ i ∧ i ≤ 999999999999999 := by omega
  have l1 := itoa_len i hi'
  have l2 := dec_size i hi'
  by_cases h1 : n = 1
  · rw [if_pos h1]; exact ⟨_, _, rfl, by omega⟩
  rw [if_neg h1]
  by_cases h2 : n = 2
  · rw [if_pos h2]; exact ⟨_, _, rfl, by omega⟩
  rw [if_neg h2]
  by_cases h6 : n = 6
  · rw [if_pos h6]
    have z1 : ((⟨#[63]⟩ : ByteArray) ++ itoaBA i).size = 1 + (itoaBA i).size := by rw [ByteArray.size_append]; rfl
    split
    · exact ⟨_, _, rfl, by omega⟩
    · exact ⟨_, _, rfl, by omega⟩
  rw [if_neg h6]
  by_cases h3 : n = 3
  · rw [if_pos h3]
    by_cases hp : Plain (L t)
    · rw [text_plain t i hp]
      refine ⟨_, _, rfl, ?_⟩
      have := esc_len (L t)
      rw [size_L] at ht ⊢
      rw [L_B]
      simp only [List.length_cons, List.length_append, List.length_nil]
      rw [size_L]
      omega
    · rw [text_bad t i hp]; exact ⟨_, _, rfl, by omega⟩
  rw [if_neg h3]
  by_cases h4 : n = 4
  · rw [if_pos h4]
    by_cases h0 : i = 0
    · rw [if_pos h0]
      obtain ⟨b, hb⟩ := whole_any t 4 (by omega)
      rw [hb]; exact ⟨_, _, rfl, by omega⟩
    · rw [if_neg h0]; exact ⟨_, _, rfl, by omega⟩
  rw [if_neg h4]
  by_cases h5 : n = 5
  · rw [if_pos h5]
    have z2 : (((⟨#[58]⟩ : ByteArray) ++ t) ++ (⟨#[58]⟩ : ByteArray)).size = 1 + t.size + 1 := by rw [ByteArray.size_append, ByteArray.size_append]; rfl
    by_cases h0 : i = 0
    · rw [if_pos h0]
      obtain ⟨b, hb⟩ := whole_any (((⟨#[58]⟩ : ByteArray) ++ t) ++ (⟨#[58]⟩ : ByteArray)) 5 (by omega)
      rw [hb]; exact ⟨_, _, rfl, by omega⟩
    · rw [if_neg h0]; exact ⟨_, _, rfl, by omega⟩
  rw [if_neg h5]; exact ⟨_, _, rfl, by omega⟩
/-- Few short texts. -/
def Short (p : S60) : Prop := p.f0.size ≤ 1000 ∧ p.f3.size ≤ 1000
theorem part_size (p : S60) (o v : ByteArray) : (partT p o v).size ≤ o.size + p.f0.size + v.size + 2 := by
  have := part_L p o v
  rw [size_L, this, List.length_append, size_L, size_L, size_L]
  split
  · simp only [List.length_cons, List.length_append]; omega
  · simp only [List.length_cons]; omega
theorem tail_any : ∀ (ps : List S60) (seen : List ByteArray) (o : ByteArray), (∀ q ∈ ps, Short q) → o.size + ps.length * 4000 ≤ 1000000 → ∃ o' e, tailF ps seen o = some (o', e) ∧ o'.size ≤ o.size + ps.length * 4000
  | [], seen, o, _, _ => ⟨o, 0, by rw [tailF], by omega⟩
  | p :: ps, seen, o, hf, hz => by
    have hp := hf p (List.mem_cons_self ..)
    obtain ⟨v, b, hv, hvz⟩ := value_any p.f0 p.f1 p.f2 p.f3 hp.2
    have hp1 := hp.1
    have hp2 := hp.2
    rw [List.length_cons] at hz ⊢
    rw [tailF, hv]
    simp only [Option.bind_some]
    rw [if_neg (by simp only [Decidable.not_not]; refine ⟨by omega, by omega, by omega⟩)]
    have z0 : (⟨#[]⟩ : ByteArray).size = 0 := rfl
    by_cases hb : badP p b seen = true
    · rw [if_pos hb]; exact ⟨_, _, rfl, by omega⟩
    · rw [if_neg hb]
      have hs := part_size p o v
      obtain ⟨o', e, h1, h2⟩ := tail_any ps (p.f0 :: seen) (partT p o v) (fun q hq => hf q (List.mem_cons_of_mem _ hq)) (by omega)
      exact ⟨o', e, h1, by omega⟩
/-- What an item's text tells is the item. -/
theorem text_back {n i : Int} {t o : ByteArray} {l : List S60} (h : sfitem_Text.f n i t l = some (o, 0)) : IT (L o) n i (L t) l := by
  unfold sfitem_Text.f at h
  obtain ⟨⟨v, b⟩, hv, h⟩ := Option.bind_eq_some_iff.1 h
  obtain ⟨⟨o', e⟩, ho, h⟩ := Option.bind_eq_some_iff.1 h
  simp only [] at h
  cases b with
  | false => rw [if_neg (by decide)] at h; simp at h
  | true =>
    rw [if_pos rfl] at h
    by_cases he : e = 0
    · rw [if_pos he] at h
      subst he
      by_cases hz : v.size + o'.size ≤ 9223372036854775807
      · rw [if_pos hz] at h
        have h := Option.some.inj h
        simp only [Prod.mk.injEq] at h
        rw [← h.1, L_app]
        unfold sfitem_Tail.f at ho
        by_cases hl : l.length ≤ 140737488355327
        · rw [if_pos hl] at ho
          obtain ⟨u2, g1, g2⟩ := tail_back l [] ⟨#[]⟩ o' [] ho (fun q hq => by cases hq)
          rw [L_nil, List.nil_append] at g1
          rw [List.nil_append] at g2
          exact ⟨L v, L o', rfl, value_back _ _ _ _ _ hv, by rw [g1]; exact g2⟩
        · rw [if_neg hl] at ho; cases ho
      · rw [if_neg hz] at h; cases h
    · rw [if_neg he] at h; simp at h
end Go.Proofs.YtjdbiicjfpgjkaaGreatDoor.Pl
/- Chapter 6: a member's text tells the member; a member that a text tells has a text. -/
namespace Go.Proofs.YtjdbiicjfpgjkaaGreatDoor.Pl
open Go.RowKit Go.Proofs.YtjdbiicjfpgjkaaGreatDoor.Q Go.Proofs.YtjdbiicjfpgjkaaGreatDoor.Sf Go.Proofs.YtjdbiicjfpgjkaaGreatDoorW.PrintWords Go.Proofs.YtjdbiicjfpgjkaaGreatDoorW.PrintLast
set_option linter.unusedVariables false
set_option linter.unusedSimpArgs false
theorem join_L (t : ByteArray) (ts : List ByteArray) (sep : ByteArray) : L (joinBA (t :: ts) sep) = L t ++ (ts.map (fun x => L sep ++ L x)).flatten := by
  have h := Lib.join_cons (L t) (ts.map L) (L sep)
  have e : L (joinBA (t :: ts) sep) = Lib.join (L t :: ts.map L) (L sep) := rfl
  rw [e, h]
  unfold Lib.joinTail
  rw [List.map_map]
  rfl
/-- Texts that tell items. -/
inductive Txs : List ByteArray → List S31 → Prop
  | nil : Txs [] []
  | cons (t : ByteArray) (x : S31) (ts : List ByteArray) (xs : List S31) (h : ITm (L t) x) (hs : Txs ts xs) : Txs (t :: ts) (x :: xs)
theorem tail_pt {l : List S60} {u : ByteArray} (h : sfitem_Tail.f l = some (u, 0)) : PT (L u) [] l := by
  unfold sfitem_Tail.f at h
  split at h
  · obtain ⟨u2, g1, g2⟩ := tail_back l [] ⟨#[]⟩ u [] h (fun q hq => by cases hq)
    rw [L_nil, List.nil_append] at g1
    rw [List.nil_append] at g2
    rw [g1]; exact g2
  · cases h
/-- A member's text, by the program. -/
def txt (m : S34) : Option (ByteArray × Int) := sfield_text.f 0 m.f0 m.f1 m.f2.f0 m.f2.f1 m.f2.f2 m.f2.f3 m.f3 m.f4
end Go.Proofs.YtjdbiicjfpgjkaaGreatDoor.Pl
namespace Go.Proofs.YtjdbiicjfpgjkaaGreatDoor.Q
open Go.RowKit Go.Proofs.YtjdbiicjfpgjkaaGreatDoorW.PrintWords Go.Proofs.YtjdbiicjfpgjkaaGreatDoorW.PrintLast Go.Proofs.YtjdbiicjfpgjkaaGreatDoorW.PrintMore
set_option linter.unusedVariables false
set_option linter.unusedSimpArgs false
mutual
def glacisref05_Value.j0 : Nat → Int → Int → ByteArray → Bool → Option (ByteArray × Bool)
 | 0, _, _, _, _ => none
 | k + 1, x0, x1, x2, x8 => if x8 = true then (if x2.toList = ([] : List UInt8) then (if x1 < (-999999999999999) then (glacisref05_Value.j1 k x0 x1 x2 true) else (glacisref05_Value.j1 k x0 x1 x2 (decide (x1 > 999999999999999)))) else (glacisref05_Value.j1 k x0 x1 x2 true)) else (if x1 = 0 then (if x1 < (-999999999999999) then (glacisref05_Value.j1 k x0 x1 x2 true) else (glacisref05_Value.j1 k x0 x1 x2 (decide (x1 > 999999999999999)))) else (glacisref05_Value.j1 k x0 x1 x2 true))
def glacisref05_Value.j1 : Nat → Int → Int → ByteArray → Bool → Option (ByteArray × Bool)
 | 0, _, _, _, _ => none
 | k + 1, x0, x1, x2, x47 => if x47 = true then (some ((⟨#[]⟩ : ByteArray), false)) else (if x0 = 1 then ((strconv_Itoa.f x1).bind fun t527 => (some (t527, true))) else (if x0 = 2 then ((glacisref05_decimal.f k x1).bind fun t528 => (some (t528, true))) else (if x0 = 6 then ((strconv_Itoa.f x1).bind fun t529 => (if 1 + t529.size ≤ 9223372036854775807 then (if x1 = 0 then (some ((⟨#[63]⟩ : ByteArray) ++ t529, true)) else (some ((⟨#[63]⟩ : ByteArray) ++ t529, (x1 == 1)))) else (none))) else (if x0 = 3 then (glacisref05_Value.l0 k x2 (⟨#[]⟩ : ByteArray) 0) else (if x0 = 4 then ((glacisref05_value.f k x2).bind fun bt530 => (if bt530.2.2.2.2.2 = true then (if bt530.2.2.2.2.1.toList = ([] : List UInt8) then (some (x2, (bt530.2.1 == 4))) else (some (x2, false))) else (some (x2, false)))) else (if x0 = 5 then (if 1 + x2.size ≤ 9223372036854775807 then (if ((⟨#[58]⟩ : ByteArray) ++ x2).size + 1 ≤ 9223372036854775807 then ((glacisref05_value.f k (((⟨#[58]⟩ : ByteArray) ++ x2) ++ (⟨#[58]⟩ : ByteArray))).bind fun bt537 => (if bt537.2.2.2.2.2 = true then (if bt537.2.2.2.2.1.toList = ([] : List UInt8) then (if bt537.2.1 = 5 then (some (((⟨#[58]⟩ : ByteArray) ++ x2) ++ (⟨#[58]⟩ : ByteArray), (bt537.2.2.2.1.toList == x2.toList))) else (some (((⟨#[58]⟩ : ByteArray) ++ x2) ++ (⟨#[58]⟩ : ByteArray), false))) else (some (((⟨#[58]⟩ : ByteArray) ++ x2) ++ (⟨#[58]⟩ : ByteArray), false))) else (some (((⟨#[58]⟩ : ByteArray) ++ x2) ++ (⟨#[58]⟩ : ByteArray), false)))) else (none)) else (none)) else (some ((⟨#[]⟩ : ByteArray), false))))))))
def glacisref05_Value.l0 : Nat → ByteArray → ByteArray → Int → Option (ByteArray × Bool)
 | 0, _, _, _ => none
 | k + 1, x2, x9, x10 => if x10 < (x2.size : Int) then (if 0 ≤ x10 then (if (bt x2 x10) < 32 then (glacisref05_Value.j3 k x2 x9 x10 true) else (glacisref05_Value.j3 k x2 x9 x10 (decide ((bt x2 x10) > 126)))) else (none)) else (if 1 + x9.size ≤ 9223372036854775807 then (if ((⟨#[34]⟩ : ByteArray) ++ x9).size + 1 ≤ 9223372036854775807 then (some (((⟨#[34]⟩ : ByteArray) ++ x9) ++ (⟨#[34]⟩ : ByteArray), true)) else (none)) else (none))
def glacisref05_Value.j3 : Nat → ByteArray → ByteArray → Int → Bool → Option (ByteArray × Bool)
 | 0, _, _, _, _ => none
 | k + 1, x2, x9, x10, x85 => if x85 = true then (some ((⟨#[]⟩ : ByteArray), false)) else (if 0 ≤ x10 then (if x10 < (x2.size : Int) then (if (bt x2 x10) = 34 then (if x9.size + 1 ≤ 9223372036854775807 then (if x10 ≤ (wrap64 (x10 + 1)) then (if (wrap64 (x10 + 1)) ≤ (x2.size : Int) then (if (x9 ++ (⟨#[92]⟩ : ByteArray)).size + (x2.extract (x10 : Int).toNat ((wrap64 (x10 + 1)) : Int).toNat).size ≤ 9223372036854775807 then (glacisref05_Value.l0 k x2 ((x9 ++ (⟨#[92]⟩ : ByteArray)) ++ (x2.extract (x10 : Int).toNat ((wrap64 (x10 + 1)) : Int).toNat)) (wrap64 (x10 + 1))) else (none)) else (none)) else (none)) else (none)) else (if (bt x2 x10) = 92 then (if x9.size + 1 ≤ 9223372036854775807 then (if x10 ≤ (wrap64 (x10 + 1)) then (if (wrap64 (x10 + 1)) ≤ (x2.size : Int) then (if (x9 ++ (⟨#[92]⟩ : ByteArray)).size + (x2.extract (x10 : Int).toNat ((wrap64 (x10 + 1)) : Int).toNat).size ≤ 9223372036854775807 then (glacisref05_Value.l0 k x2 ((x9 ++ (⟨#[92]⟩ : ByteArray)) ++ (x2.extract (x10 : Int).toNat ((wrap64 (x10 + 1)) : Int).toNat)) (wrap64 (x10 + 1))) else (none)) else (none)) else (none)) else (none)) else (if x10 ≤ (wrap64 (x10 + 1)) then (if (wrap64 (x10 + 1)) ≤ (x2.size : Int) then (if x9.size + (x2.extract (x10 : Int).toNat ((wrap64 (x10 + 1)) : Int).toNat).size ≤ 9223372036854775807 then (glacisref05_Value.l0 k x2 (x9 ++ (x2.extract (x10 : Int).toNat ((wrap64 (x10 + 1)) : Int).toNat)) (wrap64 (x10 + 1))) else (none)) else (none)) else (none)))) else (none)) else (none))
end
def glacisref05_Value.f (k : Nat) (a0 : Int) (a1 : Int) (a2 : ByteArray) : Option (ByteArray × Bool) := if a0 = 1 then (glacisref05_Value.j0 k a0 a1 a2 true) else (if a0 = 2 then (glacisref05_Value.j0 k a0 a1 a2 true) else (glacisref05_Value.j0 k a0 a1 a2 (a0 == 6)))
end Go.Proofs.YtjdbiicjfpgjkaaGreatDoor.Q
namespace Go.Proofs.YtjdbiicjfpgjkaaGreatDoor.Q
open Go.RowKit Go.Proofs.YtjdbiicjfpgjkaaGreatDoorW.PrintWords Go.Proofs.YtjdbiicjfpgjkaaGreatDoorW.PrintLast Go.Proofs.YtjdbiicjfpgjkaaGreatDoorW.PrintMore
set_option linter.unusedVariables false
set_option linter.unusedSimpArgs false
mutual
def glacisref05_Tail.l0 : Nat → List (S60) → ByteArray → Int → Option (ByteArray × Int)
 | 0, _, _, _ => none
 | k + 1, x0, x4, x5 => if x5 < (x0.length : Int) then (if 0 ≤ x5 then ((glacisref05_Key.f k ((rd_T60 x0 x5).f0)).bind fun bt545 => ((glacisref05_Value.f k ((rd_T60 x0 x5).f1) ((rd_T60 x0 x5).f2) ((rd_T60 x0 x5).f3)).bind fun bt551 => (if bt545.2.2 = 0 then (if bt545.2.1.toList = ([] : List UInt8) then (glacisref05_Tail.j1 k x0 x4 x5 bt545.1 bt551.1 (!bt551.2)) else (glacisref05_Tail.j1 k x0 x4 x5 bt545.1 bt551.1 true)) else (glacisref05_Tail.j1 k x0 x4 x5 bt545.1 bt551.1 true)))) else (none)) else (some (x4, 0))
def glacisref05_Tail.j1 : Nat → List (S60) → ByteArray → Int → ByteArray → ByteArray → Bool → Option (ByteArray × Int)
 | 0, _, _, _, _, _, _ => none
 | k + 1, x0, x4, x5, x6, x9, x56 => if x56 = true then (some ((⟨#[]⟩ : ByteArray), 50)) else (glacisref05_Tail.l1 k x0 x4 x5 x6 x9 0)
def glacisref05_Tail.l1 : Nat → List (S60) → ByteArray → Int → ByteArray → ByteArray → Int → Option (ByteArray × Int)
 | 0, _, _, _, _, _, _ => none
 | k + 1, x0, x4, x5, x6, x9, x11 => if x11 < x5 then (if 0 ≤ x11 then (if x11 < (x0.length : Int) then (if ((rd_T60 x0 x11).f0).toList = x6.toList then (some ((⟨#[]⟩ : ByteArray), 50)) else (glacisref05_Tail.l1 k x0 x4 x5 x6 x9 (wrap64 (x11 + 1)))) else (none)) else (none)) else (if x4.size + 1 ≤ 9223372036854775807 then (if (x4 ++ (⟨#[59]⟩ : ByteArray)).size + x6.size ≤ 9223372036854775807 then (if 0 ≤ x5 then (if x5 < (x0.length : Int) then (if ((rd_T60 x0 x5).f1) = 6 then (if ((rd_T60 x0 x5).f2) = 1 then (glacisref05_Tail.l0 k x0 ((x4 ++ (⟨#[59]⟩ : ByteArray)) ++ x6) (wrap64 (x5 + 1))) else (if ((x4 ++ (⟨#[59]⟩ : ByteArray)) ++ x6).size + 1 ≤ 9223372036854775807 then (if (((x4 ++ (⟨#[59]⟩ : ByteArray)) ++ x6) ++ (⟨#[61]⟩ : ByteArray)).size + x9.size ≤ 9223372036854775807 then (glacisref05_Tail.l0 k x0 ((((x4 ++ (⟨#[59]⟩ : ByteArray)) ++ x6) ++ (⟨#[61]⟩ : ByteArray)) ++ x9) (wrap64 (x5 + 1))) else (none)) else (none))) else (if ((x4 ++ (⟨#[59]⟩ : ByteArray)) ++ x6).size + 1 ≤ 9223372036854775807 then (if (((x4 ++ (⟨#[59]⟩ : ByteArray)) ++ x6) ++ (⟨#[61]⟩ : ByteArray)).size + x9.size ≤ 9223372036854775807 then (glacisref05_Tail.l0 k x0 ((((x4 ++ (⟨#[59]⟩ : ByteArray)) ++ x6) ++ (⟨#[61]⟩ : ByteArray)) ++ x9) (wrap64 (x5 + 1))) else (none)) else (none))) else (none)) else (none)) else (none)) else (none))
end
def glacisref05_Tail.f (k : Nat) (l0 : List (S60)) : Option (ByteArray × Int) := glacisref05_Tail.l0 k l0 (⟨#[]⟩ : ByteArray) 0
def glacisref05_Text.f (k : Nat) (a0_0 : Int) (a0_1 : Int) (a0_2 : ByteArray) (l0_3 : List (S60)) : Option (ByteArray × Int) := (glacisref05_Value.f k a0_0 a0_1 a0_2).bind fun bt557 => ((glacisref05_Tail.f k l0_3).bind fun bt559 => (if bt557.2 = true then (if bt559.2 = 0 then (if bt557.1.size + bt559.1.size ≤ 9223372036854775807 then (some (bt557.1 ++ bt559.1, 0)) else (none)) else (some ((⟨#[]⟩ : ByteArray), 50))) else (some ((⟨#[]⟩ : ByteArray), 50))))
def glacisref06_bare.f (a0_0 : Int) (a0_1 : Int) (a0_2 : ByteArray) (l0_3 : List (S60)) : Option (Bool) := if a0_0 = 0 then (if a0_1 = 0 then (if a0_2.toList = ([] : List UInt8) then (some ((l0_3.length : Int) == 0)) else (some false)) else (some false)) else (some false)
end Go.Proofs.YtjdbiicjfpgjkaaGreatDoor.Q
/- Chapter 5: the document's own texts of values, parameters and items are the program's. -/
namespace Go.Proofs.YtjdbiicjfpgjkaaGreatDoor.Pl
open Go.RowKit Go.Proofs.YtjdbiicjfpgjkaaGreatDoor.Q Go.Proofs.YtjdbiicjfpgjkaaGreatDoor.Sf Go.Proofs.YtjdbiicjfpgjkaaGreatDoorW.PrintWords Go.Proofs.YtjdbiicjfpgjkaaGreatDoorW.PrintLast
set_option linter.unusedVariables false
set_option linter.unusedSimpArgs false
theorem itoa_s (n : Int) (h : -9000000000000000000 ≤ n ∧ n ≤ 9000000000000000000) : strconv_Itoa.f n = some (itoaBA n) := by
  unfold strconv_Itoa.f
  rw [if_pos (by omega)]
theorem fit2 (a b : Nat) (ha : a ≤ 1000000) (hb : b ≤ 1000000) : a + b ≤ 9223372036854775807 := by omega
def dgt (d : Nat) : List UInt8 := [UInt8.ofNat (48 + d)]
/-- The document's digits behind the point. -/
def refFr (r : Nat) : List UInt8 := dgt (r / 100) ++ ((if r % 100 = 0 then [] else dgt (r / 10 % 10)) ++ (if r % 10 = 0 then [] else dgt (r % 10)))
set_option maxRecDepth 100000 in
theorem fr_ref (r : Nat) (h : r < 1000) : refFr r = frL r := by
  have h1 : ((List.range 1000).all fun r => decide (refFr r = frL r)) = true := by decide +kernel
  exact of_decide_eq_true (List.all_eq_true.1 h1 r (List.mem_range.2 h))
theorem tm1000 (a : Nat) : Int.tmod (a : Int) 1000 = ((a % 1000 : Nat) : Int) := by rw [Int.tmod_eq_emod_of_nonneg (by omega)]; omega
theorem tm100 (a : Nat) : Int.tmod (a : Int) 100 = ((a % 100 : Nat) : Int) := by rw [Int.tmod_eq_emod_of_nonneg (by omega)]; omega
theorem tm10 (a : Nat) : Int.tmod (a : Int) 10 = ((a % 10 : Nat) : Int) := by rw [Int.tmod_eq_emod_of_nonneg (by omega)]; omega
theorem td1000 (a : Nat) : Int.tdiv (a : Int) 1000 = ((a / 1000 : Nat) : Int) := by rw [Int.tdiv_eq_ediv_of_nonneg (by omega)]; omega
theorem td100 (a : Nat) : Int.tdiv (a : Int) 100 = ((a / 100 : Nat) : Int) := by rw [Int.tdiv_eq_ediv_of_nonneg (by omega)]; omega
theorem td10 (a : Nat) : Int.tdiv (a : Int) 10 = ((a / 10 : Nat) : Int) := by rw [Int.tdiv_eq_ediv_of_nonneg (by omega)]; omega
theorem wrap_nat (a : Nat) (h : a ≤ 1000000000000000) : wrap64 (a : Int) = (a : Int) := wrap_id _ (by omega)
theorem itoa_nat (a : Nat) (h : a ≤ 1000000000000000) : strconv_Itoa.f (a : Int) = some (B (Lib.decDigits a)) := by
  rw [itoa_s _ (by omega)]
  refine congrArg some (L_inj ?_)
  rw [itoa_L, L_B]
  have : sgO (a : Int) = [] := by unfold sgO; rw [if_neg (by omega)]
  rw [this, Int.natAbs_natCast, List.nil_append]
theorem itoa_one (d : Nat) (h : d < 10) : strconv_Itoa.f (d : Int) = some (B (dgt d)) := by
  rw [itoa_nat d (by omega), Lib.decDigits, dif_pos h]; rfl
theorem zd (d : Nat) : (B (dgt d)).size = 1 := by rw [size_L, L_B]; rfl
theorem dec_fin (sg q x : ByteArray) (hs : sg.size ≤ 1) (hq : q.size ≤ 12) (hx : x.size ≤ 3) : (if sg.size + q.size ≤ 9223372036854775807 then (if (sg ++ q).size + 1 ≤ 9223372036854775807 then (if ((sg ++ q) ++ (⟨#[46]⟩ : ByteArray)).size + x.size ≤ 9223372036854775807 then (some (((sg ++ q) ++ (⟨#[46]⟩ : ByteArray)) ++ x)) else (none)) else (none)) else (none)) = some (((sg ++ q) ++ (⟨#[46]⟩ : ByteArray)) ++ x) := by
  have z46 : (⟨#[46]⟩ : ByteArray).size = 1 := rfl
  have a1 : (sg ++ q).size ≤ 13 := by rw [ByteArray.size_append]; omega
  have a2 : ((sg ++ q) ++ (⟨#[46]⟩ : ByteArray)).size ≤ 14 := by rw [ByteArray.size_append]; omega
  have f1 := fit2 sg.size q.size (by omega) (by omega)
  have f2 := fit2 (sg ++ q).size 1 (by omega) (by omega)
  have f3 := fit2 ((sg ++ q) ++ (⟨#[46]⟩ : ByteArray)).size x.size (by omega) (by omega)
  rw [if_pos f1, if_pos f2, if_pos f3]
def lastD (r : Nat) : ByteArray := if r % 10 = 0 then ⟨#[]⟩ else B (dgt (r % 10))
theorem dec_j1 (k m r : Nat) (sg x : ByteArray) (hm : m ≤ 999999999999999) (hs : sg.size ≤ 1) (hx : x.size ≤ 2) : glacisref05_decimal.j1 (k + 1) (m : Int) sg (r : Int) x = some (((sg ++ B (Lib.decDigits (m / 1000))) ++ (⟨#[46]⟩ : ByteArray)) ++ (x ++ lastD r)) := by
  have hq : (B (Lib.decDigits (m / 1000))).size ≤ 12 := by rw [size_L, L_B]; exact dec_len 11 _ (by omega)
  rw [glacisref05_decimal.j1, tm10, td1000, wrap_nat _ (by omega)]
  unfold lastD
  by_cases h : r % 10 = 0
  · rw [if_pos (show ((r % 10 : Nat) : Int) = 0 by omega), itoa_nat _ (by omega), if_pos h]
    simp only [Option.bind_some]
    rw [dec_fin sg _ x hs hq (by omega)]
    congr 1
    apply L_inj
    first | (simp only [L_app]; done) | (simp only [L_app]; show _ = _ ++ (L x ++ []); rw [List.append_nil])
  · have z := zd (r % 10)
    have f := fit2 x.size (B (dgt (r % 10))).size (by omega) (by omega)
    rw [if_neg (show ¬ ((r % 10 : Nat) : Int) = 0 by omega), itoa_one _ (by omega), if_neg h]
    simp only [Option.bind_some]
    rw [if_pos f, itoa_nat _ (by omega)]
    simp only [Option.bind_some]
    rw [dec_fin sg _ (x ++ B (dgt (r % 10))) hs hq (by rw [ByteArray.size_append]; omega)]
theorem dec_join (q u l : List UInt8) (sg x y : ByteArray) (hx : L x ++ L y = l) : ((sg ++ B q) ++ (⟨#[46]⟩ : ByteArray)) ++ (x ++ y) = B (L sg ++ (q ++ 46 :: l)) := by
  apply L_inj
  rw [L_app, L_app, L_app, L_app, L_B, L_B, hx]
  show ((L sg ++ q) ++ [46]) ++ l = _
  simp
theorem lastD_L (r : Nat) : L (lastD r) = if r % 10 = 0 then [] else dgt (r % 10) := by
  unfold lastD
  split
  · rfl
  · exact L_B _
theorem dec_j0 (k : Nat) (hk : 3 ≤ k) (m : Nat) (hm : m ≤ 999999999999999) (sg : ByteArray) (hs : sg.size ≤ 1) : glacisref05_decimal.j0 k (m : Int) sg = some (B (L sg ++ (Lib.decDigits (m / 1000) ++ 46 :: frL (m % 1000)))) := by
  obtain ⟨k, rfl⟩ : ∃ k', k = k' + 2 := ⟨k - 2, by omega⟩
  rw [glacisref05_decimal.j0, tm1000, td100, wrap_nat _ (by omega), tm100, td10, wrap_nat _ (by omega), tm10, itoa_one _ (by omega)]
  simp only [Option.bind_some]
  rw [← fr_ref (m % 1000) (by omega)]
  have z1 := zd (m % 1000 / 100)
  by_cases h : m % 1000 % 100 = 0
  · rw [if_pos (show ((m % 1000 % 100 : Nat) : Int) = 0 by omega), dec_j1 k m (m % 1000) sg _ hm hs (by omega)]
    rw [dec_join (Lib.decDigits (m / 1000)) [] (refFr (m % 1000)) sg _ _ (by rw [L_B, lastD_L]; unfold refFr; rw [if_pos h]; rfl)]
  · have z2 := zd (m % 1000 / 10 % 10)
    have f := fit2 (B (dgt (m % 1000 / 100))).size (B (dgt (m % 1000 / 10 % 10))).size (by omega) (by omega)
    rw [if_neg (show ¬ ((m % 1000 % 100 : Nat) : Int) = 0 by omega), itoa_one _ (by omega)]
    simp only [Option.bind_some]
    rw [if_pos f, dec_j1 k m (m % 1000) sg _ hm hs (by rw [ByteArray.size_append]; omega)]
    rw [dec_join (Lib.decDigits (m / 1000)) [] (refFr (m % 1000)) sg _ _ (by rw [L_app, L_B, L_B, lastD_L]; unfold refFr; rw [if_neg h, List.append_assoc])]
theorem decimal_f (k : Nat) (hk : 3 ≤ k) (i : Int) (h : -999999999999999 ≤ i ∧ i ≤ 999999999999999) : glacisref05_decimal.f k i = some (decB i) := by
  have e : decB i = B (sgO i ++ (Lib.decDigits (i.natAbs / 1000) ++ 46 :: frL (i.natAbs % 1000))) := by rw [← dec_L, B_L]
  unfold glacisref05_decimal.f
  rw [e]
  by_cases c : i < 0
  · have w : wrap64 (-i) = (i.natAbs : Int) := by rw [wrap_id _ (by omega)]; omega
    rw [if_pos c, w, dec_j0 k hk i.natAbs (by omega) _ (by decide)]
    unfold sgO
    rw [if_pos c]; rfl
  · have w : i = (i.natAbs : Int) := by omega
    rw [if_neg c]
    have := dec_j0 k hk i.natAbs (by omega) ⟨#[]⟩ (by decide)
    rw [← w] at this
    rw [this]
    unfold sgO
    rw [if_neg c]; rfl
theorem esc_snoc (u : List UInt8) (c : UInt8) : esc (u ++ [c]) = esc u ++ (if c.toNat = 34 ∨ c.toNat = 92 then [92, c] else [c]) := by unfold esc; rw [List.flatMap_append, List.flatMap_singleton]
theorem quo_end (k : Nat) (t o : ByteArray) (ho : o.size ≤ 5000) (i : Int) (h : ¬ i < (t.size : Int)) : glacisref05_Value.l0 (k + 1) t o i = some (B (34 :: (L o ++ [34])), true) := by
  have z1 : ((⟨#[34]⟩ : ByteArray) ++ o).size ≤ 6000 := by rw [ByteArray.size_append]; show 1 + o.size ≤ 6000; omega
  rw [glacisref05_Value.l0, if_neg h, if_pos (fit2 _ _ (by omega) (by omega)), if_pos (fit2 _ _ (by omega) (by omega))]
  have : (((⟨#[34]⟩ : ByteArray) ++ o) ++ (⟨#[34]⟩ : ByteArray)) = B (34 :: (L o ++ [34])) := by
    apply L_inj
    rw [L_app, L_app, L_B]; rfl
  rw [this]
theorem quo_bad (k i : Nat) (t o : ByteArray) (c : UInt8) (hi : i < t.size) (hc : bt t i = (c.toNat : Int)) (h : ¬ (32 ≤ c.toNat ∧ c.toNat ≤ 126)) : glacisref05_Value.l0 (k + 2) t o (i : Int) = some (⟨#[]⟩, false) := by
  rw [glacisref05_Value.l0, if_pos (by omega), if_pos (by omega), hc]
  by_cases h1 : (c.toNat : Int) < 32
  · rw [if_pos h1, glacisref05_Value.j3, if_pos rfl]
  · rw [if_neg h1, decide_eq_true (show (c.toNat : Int) > 126 by omega), glacisref05_Value.j3, if_pos rfl]
theorem quo_go (k i : Nat) (t o : ByteArray) (c : UInt8) (ht : t.size ≤ 1000) (hi : i < t.size) (ho : o.size ≤ 5000) (hc : bt t i = (c.toNat : Int)) (h : 32 ≤ c.toNat ∧ c.toNat ≤ 126) :
    ∃ o2, glacisref05_Value.l0 (k + 2) t o (i : Int) = glacisref05_Value.l0 k t o2 ((i + 1 : Nat) : Int) ∧ L o2 = L o ++ (if c.toNat = 34 ∨ c.toNat = 92 then [92, c] else [c]) := by
  have p1 : ((i : Int)) ≤ (((i + 1 : Nat) : Int)) := by omega
  have p2 : (((i + 1 : Nat) : Int)) ≤ (t.size : Int) := by omega
  have p3 : (0 : Int) ≤ (i : Int) := by omega
  have p4 : (i : Int) < (t.size : Int) := by omega
  have hw := wrap_next i (by omega)
  have hl : i < (L t).length := by rw [← size_L]; exact hi
  have e1 : L (t.extract i (i + 1)) = [c] := by
    rw [L_extm, drop_cons _ _ hl, show i + 1 - i = 1 by omega]
    have : (L t)[i] = c := u_eq (by rw [← bt_L t i hl, hc])
    rw [this]; rfl
  have z1 := ext_size t i hi
  have z2 : (o ++ (⟨#[92]⟩ : ByteArray)).size ≤ 6000 := by rw [ByteArray.size_append]; show o.size + 1 ≤ 6000; omega
  have n1 : ¬ (c.toNat : Int) < 32 := by omega
  have n2 : ¬ (c.toNat : Int) > 126 := by omega
  have f1 := fit2 o.size 1 (by omega) (by omega)
  have f2 := fit2 (o ++ (⟨#[92]⟩ : ByteArray)).size (t.extract i (i + 1)).size (by omega) (by omega)
  have f3 := fit2 o.size (t.extract i (i + 1)).size (by omega) (by omega)
  rw [glacisref05_Value.l0, if_pos p4, if_pos p3, hc, if_neg n1, decide_eq_false n2, glacisref05_Value.j3, if_neg (by decide), if_pos p3, if_pos p4, hc, hw]
  simp only [Int.toNat_natCast]
  by_cases c34 : (c.toNat : Int) = 34
  · refine ⟨(o ++ (⟨#[92]⟩ : ByteArray)) ++ t.extract i (i + 1), ?_, ?_⟩
    · rw [if_pos c34, if_pos f1, if_pos p1, if_pos p2, if_pos f2]
    · rw [L_app, L_app, e1, if_pos (Or.inl (by omega))]
      show (L o ++ [92]) ++ [c] = _
      simp
  · rw [if_neg c34]
    by_cases c92 : (c.toNat : Int) = 92
    · refine ⟨(o ++ (⟨#[92]⟩ : ByteArray)) ++ t.extract i (i + 1), ?_, ?_⟩
      · rw [if_pos c92, if_pos f1, if_pos p1, if_pos p2, if_pos f2]
      · rw [L_app, L_app, e1, if_pos (Or.inr (by omega))]
        show (L o ++ [92]) ++ [c] = _
        simp
    · refine ⟨o ++ t.extract i (i + 1), ?_, ?_⟩
      · rw [if_neg c92, if_pos p1, if_pos p2, if_pos f3]
      · rw [L_app, e1, if_neg (by omega)]
theorem quo_l (t : ByteArray) (ht : t.size ≤ 1000) : ∀ (m i k : Nat) (o : ByteArray), i + m = t.size → 2 * m < k → L o = esc ((L t).take i) → Plain ((L t).take i) →
    ∃ o' b, glacisref05_Value.l0 k t o (i : Int) = some (o', b) ∧ (b = true ↔ Plain (L t)) ∧ (Plain (L t) → o' = B (34 :: (esc (L t) ++ [34])))
  | 0, i, k, o, hm, hk, ho, hp => by
    obtain ⟨k, rfl⟩ : ∃ k', k = k' + 1 := ⟨k - 1, by omega⟩
    have e : (L t).take i = L t := List.take_of_length_le (by rw [← size_L]; omega)
    rw [e] at ho hp
    have hz : o.size ≤ 5000 := by
      have := esc_len (L t)
      rw [size_L, ho]
      rw [size_L] at ht
      omega
    exact ⟨_, true, quo_end k t o hz i (by omega), ⟨fun _ => hp, fun _ => rfl⟩, fun _ => by rw [ho]⟩
  | m + 1, i, k, o, hm, hk, ho, hp => by
    obtain ⟨k, rfl⟩ : ∃ k', k = k' + 2 := ⟨k - 2, by omega⟩
    have hi : i < t.size := by omega
    have hl : i < (L t).length := by rw [← size_L]; exact hi
    have hc : bt t i = ((L t)[i].toNat : Int) := bt_L t i hl
    have et := take_snoc (L t) i hl
    by_cases h : 32 ≤ (L t)[i].toNat ∧ (L t)[i].toNat ≤ 126
    · have hz : o.size ≤ 5000 := by
        have := esc_len ((L t).take i)
        rw [size_L, ho]
        rw [size_L] at ht
        rw [List.length_take] at this
        omega
      obtain ⟨o2, h1, h2⟩ := quo_go k i t o _ ht hi hz hc h
      rw [h1]
      refine quo_l t ht m (i + 1) k o2 (by omega) (by omega) ?_ ?_
      · rw [h2, ho, et, esc_snoc]
      · rw [et]
        intro c hcm
        rcases List.mem_append.1 hcm with hcm | hcm
        · exact hp c hcm
        · rw [List.mem_singleton.1 hcm]; exact h
    · have hn : ¬ Plain (L t) := fun hP => h (hP _ (List.getElem_mem hl))
      exact ⟨⟨#[]⟩, false, quo_bad k i t o _ hi hc h, ⟨fun e => by (cases e), fun hP => absurd hP hn⟩, fun hP => absurd hP hn⟩
theorem rd_whole {s : ByteArray} {n i : Int} {t : List UInt8} (h : VT (L s) n i t) : rdValue s = some ((n, i, B t), B []) := value_read h [] Ends.nil s (by simp)
theorem tok_case (t : ByteArray) (ht : t.size ≤ 20000) (k : Nat) (hk : 50000 < k) (m : Int) : ∃ b, sfitem_whole.f t m = some b ∧ ((glacisref05_value.f k t).bind fun bt310 => (if bt310.2.2.2.2.2 = true then (if bt310.2.2.2.2.1.toList = ([] : List UInt8) then some (t, (bt310.2.1 == m)) else some (t, false)) else some (t, false))) = some (t, b) := by
  rw [value_f t (by omega) k (by omega)]
  simp only [Option.bind_some]
  cases hV : rdValue t with
  | none =>
    refine ⟨false, ?_, by rw [if_neg (show ¬ (refV none).2.2.2.2.2 = true by decide)]⟩
    obtain ⟨b, hb⟩ := whole_any t m (by omega)
    cases b with
    | false => exact hb
    | true =>
      obtain ⟨i, t', h⟩ := whole_inv hb
      rw [rd_whole h] at hV; cases hV
  | some vr =>
    obtain ⟨⟨n, i, tx⟩, r⟩ := vr
    rw [if_pos (show (refV (some ((n, i, tx), r))).2.2.2.2.2 = true from rfl)]
    by_cases hr : r.toList = ([] : List UInt8)
    · obtain ⟨u, a1, a2⟩ := value_inv hV
      rw [L_toList] at hr
      rw [hr, List.append_nil] at a1
      rw [← a1] at a2
      refine ⟨decide (n = m), whole_of a2 (by omega) m, ?_⟩
      rw [if_pos (show (refV (some ((n, i, tx), r))).2.2.2.2.1.toList = ([] : List UInt8) by rw [L_toList]; exact hr)]
      show some (t, (n == m)) = _
      rw [show (n == m) = decide (n = m) from rfl]
    · refine ⟨false, ?_, by rw [if_neg (show ¬ (refV (some ((n, i, tx), r))).2.2.2.2.1.toList = ([] : List UInt8) from hr)]⟩
      obtain ⟨b, hb⟩ := whole_any t m (by omega)
      cases b with
      | false => exact hb
      | true =>
        obtain ⟨i', t', h⟩ := whole_inv hb
        rw [rd_whole h] at hV
        have hV := Option.some.inj hV
        simp only [Prod.mk.injEq] at hV
        rw [← hV.2, L_toList, L_B] at hr
        exact absurd rfl hr
theorem byt_case (t : ByteArray) (ht : t.size ≤ 1000) (k : Nat) (hk : 50000 < k) : ∃ b, sfitem_whole.f (((⟨#[58]⟩ : ByteArray) ++ t) ++ (⟨#[58]⟩ : ByteArray)) 5 = some b ∧ ((glacisref05_value.f k (((⟨#[58]⟩ : ByteArray) ++ t) ++ (⟨#[58]⟩ : ByteArray))).bind fun bt317 => (if bt317.2.2.2.2.2 = true then (if bt317.2.2.2.2.1.toList = ([] : List UInt8) then (if bt317.2.1 = 5 then (some (((⟨#[58]⟩ : ByteArray) ++ t) ++ (⟨#[58]⟩ : ByteArray), (bt317.2.2.2.1.toList == t.toList))) else (some (((⟨#[58]⟩ : ByteArray) ++ t) ++ (⟨#[58]⟩ : ByteArray), false))) else (some (((⟨#[58]⟩ : ByteArray) ++ t) ++ (⟨#[58]⟩ : ByteArray), false))) else (some (((⟨#[58]⟩ : ByteArray) ++ t) ++ (⟨#[58]⟩ : ByteArray), false)))) = some (((⟨#[58]⟩ : ByteArray) ++ t) ++ (⟨#[58]⟩ : ByteArray), b) := by
  have eL : L (((⟨#[58]⟩ : ByteArray) ++ t) ++ (⟨#[58]⟩ : ByteArray)) = 58 :: (L t ++ [58]) := by rw [L_app, L_app]; rfl
  have hz : (((⟨#[58]⟩ : ByteArray) ++ t) ++ (⟨#[58]⟩ : ByteArray)).size ≤ 2000 := by rw [size_L, eL]; rw [size_L] at ht; simp only [List.length_cons, List.length_append, List.length_nil]; omega
  generalize ((⟨#[58]⟩ : ByteArray) ++ t) ++ (⟨#[58]⟩ : ByteArray) = s at *
  rw [value_f s (by omega) k (by omega)]
  simp only [Option.bind_some]
  cases hV : rdValue s with
  | none =>
    refine ⟨false, ?_, by rw [if_neg (show ¬ (refV none).2.2.2.2.2 = true by decide)]⟩
    obtain ⟨b, hb⟩ := whole_any s 5 (by omega)
    cases b with
    | false => exact hb
    | true =>
      obtain ⟨i, t', h⟩ := whole_inv hb
      rw [rd_whole h] at hV; cases hV
  | some vr =>
    obtain ⟨⟨n, i, tx⟩, r⟩ := vr
    rw [if_pos (show (refV (some ((n, i, tx), r))).2.2.2.2.2 = true from rfl)]
    by_cases hr : r.toList = ([] : List UInt8)
    · obtain ⟨u, a1, a2⟩ := value_inv hV
      rw [L_toList] at hr
      rw [hr, List.append_nil] at a1
      rw [← a1] at a2
      refine ⟨decide (n = 5), whole_of a2 (by omega) 5, ?_⟩
      rw [if_pos (show (refV (some ((n, i, tx), r))).2.2.2.2.1.toList = ([] : List UInt8) by rw [L_toList]; exact hr)]
      by_cases h5 : n = 5
      · rw [if_pos (show (refV (some ((n, i, tx), r))).2.1 = 5 from h5), decide_eq_true h5]
        have a3 : VT (L s) 5 i (L tx) := by rw [← h5]; exact a2
        obtain ⟨_, hu⟩ := byt_inv a3
        rw [eL] at hu
        have : L t = L tx := by simpa using hu
        show some (s, (tx.toList == t.toList)) = _
        rw [L_toList, L_toList, this]; simp
      · rw [if_neg (show ¬ (refV (some ((n, i, tx), r))).2.1 = 5 from h5), decide_eq_false h5]
    · refine ⟨false, ?_, by rw [if_neg (show ¬ (refV (some ((n, i, tx), r))).2.2.2.2.1.toList = ([] : List UInt8) from hr)]⟩
      obtain ⟨b, hb⟩ := whole_any s 5 (by omega)
      cases b with
      | false => exact hb
      | true =>
        obtain ⟨i', t', h⟩ := whole_inv hb
        rw [rd_whole h] at hV
        have hV := Option.some.inj hV
        simp only [Prod.mk.injEq] at hV
        rw [← hV.2, L_toList, L_B] at hr
        exact absurd rfl hr
end Go.Proofs.YtjdbiicjfpgjkaaGreatDoor.Pl
/- Chapter 5: the document's own texts of values, parameters and items are the program's: all kinds. -/
namespace Go.Proofs.YtjdbiicjfpgjkaaGreatDoor.Pl
open Go.RowKit Go.Proofs.YtjdbiicjfpgjkaaGreatDoor.Q Go.Proofs.YtjdbiicjfpgjkaaGreatDoor.Sf Go.Proofs.YtjdbiicjfpgjkaaGreatDoorW.PrintWords Go.Proofs.YtjdbiicjfpgjkaaGreatDoorW.PrintLast
set_option linter.unusedVariables false
set_option linter.unusedSimpArgs false
def Small15 (i : Int) : Prop := -999999999999999 ≤ i ∧ i ≤ 999999999999999
/-- j1 where the value may not be. -/
theorem v_no (k : Nat) (n i : Int) (t : ByteArray) : glacisref05_Value.j1 (k + 1) n i t true = some (⟨#[]⟩, false) := by
  rw [glacisref05_Value.j1, if_pos rfl]
theorem v_j0 (k : Nat) (n i : Int) (t : ByteArray) (b : Bool) (h : (b = true ∧ ¬ t.toList = ([] : List UInt8)) ∨ (b = false ∧ ¬ i = 0) ∨ i < -999999999999999 ∨ i > 999999999999999) : glacisref05_Value.j0 (k + 2) n i t b = some (⟨#[]⟩, false) := by
  rw [glacisref05_Value.j0]
  have hr : (if i < (-999999999999999) then glacisref05_Value.j1 (k + 1) n i t true else glacisref05_Value.j1 (k + 1) n i t (decide (i > 999999999999999))) = some (⟨#[]⟩, false) ∨ ¬ (i < -999999999999999 ∨ i > 999999999999999) := by
    by_cases h1 : i < -999999999999999
    · exact Or.inl (by rw [if_pos h1]; exact v_no k n i t)
    · by_cases h2 : i > 999999999999999
      · exact Or.inl (by rw [if_neg h1, decide_eq_true h2]; exact v_no k n i t)
      · exact Or.inr (by rintro (h | h); exact h1 h; exact h2 h)
  cases b with
  | true =>
    rw [if_pos rfl]
    by_cases ht : t.toList = ([] : List UInt8)
    · rw [if_pos ht]
      rcases hr with hr | hr
      · exact hr
      · rcases h with h | h | h
        · exact absurd ht h.2
        · exact absurd h.1 (by decide)
        · exact absurd h hr
    · rw [if_neg ht]; exact v_no k n i t
  | false =>
    rw [if_neg (by decide)]
    by_cases h0 : i = 0
    · rw [if_pos h0]
      rcases hr with hr | hr
      · exact hr
      · rcases h with h | h | h
        · exact absurd h.1 (by decide)
        · exact absurd h0 h.2
        · exact absurd h hr
    · rw [if_neg h0]; exact v_no k n i t
theorem v_yes (k : Nat) (n i : Int) (t : ByteArray) (b : Bool) (h : Small15 i) (hb : (b = true ∧ t.toList = ([] : List UInt8)) ∨ (b = false ∧ i = 0)) : glacisref05_Value.j0 (k + 2) n i t b = glacisref05_Value.j1 (k + 1) n i t false := by
  have h1 : ¬ i < -999999999999999 := by unfold Small15 at h; omega
  have h2 : ¬ i > 999999999999999 := by unfold Small15 at h; omega
  rw [glacisref05_Value.j0]
  rcases hb with ⟨rfl, ht⟩ | ⟨rfl, h0⟩
  · rw [if_pos rfl, if_pos ht, if_neg h1, decide_eq_false h2]
  · rw [if_neg (by decide), if_pos h0, if_neg h1, decide_eq_false h2]
theorem v_num (k : Nat) (n i : Int) (t : ByteArray) (h : n = 1 ∨ n = 2 ∨ n = 6) : glacisref05_Value.f k n i t = glacisref05_Value.j0 k n i t true := by
  unfold glacisref05_Value.f
  by_cases h1 : n = 1
  · rw [if_pos h1]
  rw [if_neg h1]
  by_cases h2 : n = 2
  · rw [if_pos h2]
  rw [if_neg h2]
  have h6 : n = 6 := by rcases h with h | h | h; exact absurd h h1; exact absurd h h2; exact h
  rw [h6]; rfl
theorem v_oth (k : Nat) (n i : Int) (t : ByteArray) (h1 : n ≠ 1) (h2 : n ≠ 2) (h6 : n ≠ 6) : glacisref05_Value.f k n i t = glacisref05_Value.j0 k n i t false := by
  unfold glacisref05_Value.f
  rw [if_neg h1, if_neg h2, beq_eq_false_iff_ne.2 h6]
set_option maxRecDepth 100000 in
theorem flag_zero : (Go.bits .andNot .i64 0 1 == 0) = true := by decide +kernel
set_option maxRecDepth 100000 in
theorem flag_one : (Go.bits .andNot .i64 1 1 == 0) = true := by decide +kernel
/-- The document's text of a value, and the program's: whether it may be is the same; if it may be, so is the text. -/
theorem Value_f (key : ByteArray) (n i : Int) (t : ByteArray) (ht : t.size ≤ 1000) (k : Nat) (hk : 100000 < k) : ∃ o b o', sfitem_value.f key n i t = some (o, b) ∧ glacisref05_Value.f k n i t = some (o', b) ∧ (b = true → o' = o) ∧ o.size ≤ 2 * t.size + 20 := by
  obtain ⟨o, b, hv, hvz⟩ := value_any key n i t ht
  obtain ⟨k, rfl⟩ : ∃ k', k = k' + 2 := ⟨k - 2, by omega⟩
  by_cases hi : i < -999999999999999 ∨ 999999999999999 < i
  · have e : sfitem_value.f key n i t = some (⟨#[]⟩, false) := by
      unfold sfitem_value.f
      rw [if_neg (by omega), if_pos hi]
    have e2 : glacisref05_Value.f (k + 2) n i t = some (⟨#[]⟩, false) := by
      by_cases h : n = 1 ∨ n = 2 ∨ n = 6
      · rw [v_num _ _ _ _ h]; exact v_j0 k n i t true (Or.inr (Or.inr hi))
      · rw [v_oth _ _ _ _ (fun e => h (Or.inl e)) (fun e => h (Or.inr (Or.inl e))) (fun e => h (Or.inr (Or.inr e)))]; exact v_j0 k n i t false (Or.inr (Or.inr hi))
    exact ⟨_, _, _, e, e2, fun _ => rfl, by show (0 : Nat) ≤ _; omega⟩
  have hs : Small15 i := by unfold Small15; omega
  have hz : ¬ ¬ t.size ≤ 2199023255540 := by omega
  have etl : t.toList.isEmpty = decide (t.toList = ([] : List UInt8)) := by
    cases t.toList with
    | nil => rfl
    | cons a l => rfl
  by_cases h1 : n = 1
  · have e : sfitem_value.f key n i t = some (itoaBA i, t.toList.isEmpty) := by unfold sfitem_value.f; rw [if_neg hz, if_neg hi, if_pos h1]
    have hz2 : (itoaBA i).size ≤ 2 * t.size + 20 := by have := itoa_len i hs; omega
    rw [v_num _ _ _ _ (Or.inl h1)]
    by_cases he : t.toList = ([] : List UInt8)
    · refine ⟨_, _, itoaBA i, e, ?_, fun _ => rfl, hz2⟩
      rw [v_yes k n i t true hs (Or.inl ⟨rfl, he⟩), glacisref05_Value.j1, if_neg (by decide), if_pos h1, itoa_s i (by unfold Small15 at hs; omega), etl, decide_eq_true he]
      rfl
    · refine ⟨_, _, ⟨#[]⟩, e, ?_, fun h => ?_, hz2⟩
      · rw [v_j0 k n i t true (Or.inl ⟨rfl, he⟩), etl, decide_eq_false he]
      · rw [etl, decide_eq_false he] at h; cases h
  by_cases h2 : n = 2
  · have e : sfitem_value.f key n i t = some (decB i, t.toList.isEmpty) := by unfold sfitem_value.f; rw [if_neg hz, if_neg hi, if_neg h1, if_pos h2]
    have hz2 : (decB i).size ≤ 2 * t.size + 20 := by have := dec_size i hs; omega
    rw [v_num _ _ _ _ (Or.inr (Or.inl h2))]
    by_cases he : t.toList = ([] : List UInt8)
    · refine ⟨_, _, decB i, e, ?_, fun _ => rfl, hz2⟩
      rw [v_yes k n i t true hs (Or.inl ⟨rfl, he⟩), glacisref05_Value.j1, if_neg (by decide), if_neg h1, if_pos h2, decimal_f k (by omega) i hs, etl, decide_eq_true he]
      rfl
    · refine ⟨_, _, ⟨#[]⟩, e, ?_, fun h => ?_, hz2⟩
      · rw [v_j0 k n i t true (Or.inl ⟨rfl, he⟩), etl, decide_eq_false he]
      · rw [etl, decide_eq_false he] at h; cases h
  by_cases h6 : n = 6
  · have hz2 : ((⟨#[63]⟩ : ByteArray) ++ itoaBA i).size ≤ 2 * t.size + 20 := by have := itoa_len i hs; rw [ByteArray.size_append]; show 1 + _ ≤ _; omega
    have hz3 : 1 + (itoaBA i).size ≤ 9223372036854775807 := by have := itoa_len i hs; exact fit2 _ _ (by omega) (by omega)
    rw [v_num _ _ _ _ (Or.inr (Or.inr h6))]
    by_cases he : t.toList = ([] : List UInt8)
    · have e : sfitem_value.f key n i t = some ((⟨#[63]⟩ : ByteArray) ++ itoaBA i, Go.bits .andNot .i64 i 1 == 0) := by unfold sfitem_value.f; rw [if_neg hz, if_neg hi, if_neg h1, if_neg h2, if_pos h6, if_pos (beq_iff_eq.2 he)]
      refine ⟨_, _, (⟨#[63]⟩ : ByteArray) ++ itoaBA i, e, ?_, fun _ => rfl, hz2⟩
      rw [v_yes k n i t true hs (Or.inl ⟨rfl, he⟩), glacisref05_Value.j1, if_neg (by decide), if_neg h1, if_neg h2, if_pos h6, itoa_s i (by unfold Small15 at hs; omega)]
      simp only [Option.bind_some]
      rw [if_pos hz3]
      by_cases z0 : i = 0
      · subst z0; rw [if_pos rfl, flag_zero]
      · rw [if_neg z0]
        by_cases z1 : i = 1
        · subst z1; rw [flag_one]; rfl
        · have : (Go.bits .andNot .i64 i 1 == 0) = false := by
            cases hb : (Go.bits .andNot .i64 i 1 == 0) with
            | false => rfl
            | true => rcases flag_of i hs hb with h | h; exact absurd h z0; exact absurd h z1
          rw [this, beq_eq_false_iff_ne.2 z1]
    · have e : sfitem_value.f key n i t = some ((⟨#[63]⟩ : ByteArray) ++ itoaBA i, false) := by unfold sfitem_value.f; rw [if_neg hz, if_neg hi, if_neg h1, if_neg h2, if_pos h6, if_neg (by rw [beq_iff_eq]; exact he)]
      exact ⟨_, _, ⟨#[]⟩, e, v_j0 k n i t true (Or.inl ⟨rfl, he⟩), fun h => (by cases h), hz2⟩
  rw [v_oth _ _ _ _ h1 h2 h6]
  by_cases h3 : n = 3
  · have e : sfitem_value.f key n i t = some (textF i t) := by unfold sfitem_value.f; rw [if_neg hz, if_neg hi, if_neg h1, if_neg h2, if_neg h6, if_pos h3]
    have hzt : (textF i t).1.size ≤ 2 * t.size + 20 := by
      rw [e] at hv; have := Option.some.inj hv
      rw [this]; exact hvz
    by_cases h0 : i = 0
    · have hq := quo_l t ht t.size 0 k ⟨#[]⟩ (by omega) (by omega) rfl (fun c hc => by cases hc)
      obtain ⟨o', b', q1, q2, q3⟩ := hq
      have e2 : glacisref05_Value.j0 (k + 2) n i t false = some (o', b') := by
        rw [v_yes k n i t false hs (Or.inr ⟨rfl, h0⟩), glacisref05_Value.j1, if_neg (by decide), if_neg h1, if_neg h2, if_neg h6, if_pos h3]
        exact q1
      by_cases hp : Plain (L t)
      · have eb : b' = true := q2.2 hp
        subst eb
        rw [text_plain t i hp] at e hzt
        have : (i == 0) = true := beq_iff_eq.2 h0
        rw [this] at e
        exact ⟨_, _, o', e, e2, fun _ => q3 hp, hzt⟩
      · have eb : b' = false := by
          cases b' with
          | false => rfl
          | true => exact absurd (q2.1 rfl) hp
        subst eb
        rw [text_bad t i hp] at e
        have hzz : (⟨#[]⟩ : ByteArray).size ≤ 2 * t.size + 20 := by show (0 : Nat) ≤ _; omega
        exact ⟨_, _, o', e, e2, fun h => (by cases h), hzz⟩
    · have e2 := v_j0 k n i t false (Or.inr (Or.inl ⟨rfl, h0⟩))
      have eb : (textF i t).2 = false := by
        by_cases hp : Plain (L t)
        · rw [text_plain t i hp]; exact beq_eq_false_iff_ne.2 h0
        · rw [text_bad t i hp]
      have e' : sfitem_value.f key n i t = some ((textF i t).1, false) := by rw [e, ← eb]
      exact ⟨_, _, _, e', e2, fun h => (by cases h), hzt⟩
  by_cases h4 : n = 4
  · by_cases h0 : i = 0
    · obtain ⟨b, c1, c2⟩ := tok_case t (by omega) k (by omega) 4
      have e : sfitem_value.f key n i t = some (t, b) := by unfold sfitem_value.f; rw [if_neg hz, if_neg hi, if_neg h1, if_neg h2, if_neg h6, if_neg h3, if_pos h4, if_pos h0, c1]; rfl
      refine ⟨_, _, t, e, ?_, fun _ => rfl, by omega⟩
      rw [v_yes k n i t false hs (Or.inr ⟨rfl, h0⟩), glacisref05_Value.j1, if_neg (by decide), if_neg h1, if_neg h2, if_neg h6, if_neg h3, if_pos h4]
      exact c2
    · have e : sfitem_value.f key n i t = some (t, false) := by unfold sfitem_value.f; rw [if_neg hz, if_neg hi, if_neg h1, if_neg h2, if_neg h6, if_neg h3, if_pos h4, if_neg h0]
      exact ⟨_, _, _, e, v_j0 k n i t false (Or.inr (Or.inl ⟨rfl, h0⟩)), fun h => (by cases h), by omega⟩
  by_cases h5 : n = 5
  · have z2 : (((⟨#[58]⟩ : ByteArray) ++ t) ++ (⟨#[58]⟩ : ByteArray)).size = 1 + t.size + 1 := by rw [ByteArray.size_append, ByteArray.size_append]; rfl
    have z3 : ((⟨#[58]⟩ : ByteArray) ++ t).size = 1 + t.size := by rw [ByteArray.size_append]; rfl
    by_cases h0 : i = 0
    · obtain ⟨b, c1, c2⟩ := byt_case t ht k (by omega)
      have e : sfitem_value.f key n i t = some (((⟨#[58]⟩ : ByteArray) ++ t) ++ (⟨#[58]⟩ : ByteArray), b) := by unfold sfitem_value.f; rw [if_neg hz, if_neg hi, if_neg h1, if_neg h2, if_neg h6, if_neg h3, if_neg h4, if_pos h5, if_pos h0, c1]; rfl
      refine ⟨_, _, ((⟨#[58]⟩ : ByteArray) ++ t) ++ (⟨#[58]⟩ : ByteArray), e, ?_, fun _ => rfl, by omega⟩
      have f1 := fit2 1 t.size (by omega) (by omega)
      have f2 := fit2 ((⟨#[58]⟩ : ByteArray) ++ t).size 1 (by omega) (by omega)
      rw [v_yes k n i t false hs (Or.inr ⟨rfl, h0⟩), glacisref05_Value.j1, if_neg (by decide), if_neg h1, if_neg h2, if_neg h6, if_neg h3, if_neg h4, if_pos h5, if_pos f1, if_pos f2]
      exact c2
    · have e : sfitem_value.f key n i t = some (((⟨#[58]⟩ : ByteArray) ++ t) ++ (⟨#[58]⟩ : ByteArray), false) := by unfold sfitem_value.f; rw [if_neg hz, if_neg hi, if_neg h1, if_neg h2, if_neg h6, if_neg h3, if_neg h4, if_pos h5, if_neg h0]
      exact ⟨_, _, _, e, v_j0 k n i t false (Or.inr (Or.inl ⟨rfl, h0⟩)), fun h => (by cases h), by omega⟩
  have e : sfitem_value.f key n i t = some (⟨#[]⟩, false) := by unfold sfitem_value.f; rw [if_neg hz, if_neg hi, if_neg h1, if_neg h2, if_neg h6, if_neg h3, if_neg h4, if_neg h5]
  have hzz : (⟨#[]⟩ : ByteArray).size ≤ 2 * t.size + 20 := by show (0 : Nat) ≤ _; omega
  by_cases h0 : i = 0
  · refine ⟨_, _, ⟨#[]⟩, e, ?_, fun _ => rfl, hzz⟩
    rw [v_yes k n i t false hs (Or.inr ⟨rfl, h0⟩), glacisref05_Value.j1, if_neg (by decide), if_neg h1, if_neg h2, if_neg h6, if_neg h3, if_neg h4, if_neg h5]
  · exact ⟨_, _, ⟨#[]⟩, e, v_j0 k n i t false (Or.inr (Or.inl ⟨rfl, h0⟩)), fun _ => rfl, hzz⟩
end Go.Proofs.YtjdbiicjfpgjkaaGreatDoor.Pl
/- Chapter 5: the document's own text of parameters and items is the program's. -/
namespace Go.Proofs.YtjdbiicjfpgjkaaGreatDoor.Pl
open Go.RowKit Go.Proofs.YtjdbiicjfpgjkaaGreatDoor.Q Go.Proofs.YtjdbiicjfpgjkaaGreatDoor.Sf Go.Proofs.YtjdbiicjfpgjkaaGreatDoorW.PrintWords Go.Proofs.YtjdbiicjfpgjkaaGreatDoorW.PrintLast
set_option linter.unusedVariables false
set_option linter.unusedSimpArgs false
theorem flag_any {u : List UInt8} {i : Int} {t : List UInt8} (h : VT u 6 i t) : i = 0 ∨ i = 1 := by
  by_cases c : i = 0
  · exact Or.inl c
  · exact Or.inr (flag_inv h c).1
/-- What follows where no key stands there twice. -/
theorem tail_cont (k j : Nat) (l : List S60) (o v : ByteArray) (hl : l.length ≤ 100) (hj : j < l.length) (ho : o.size ≤ 900000) (hk : l[j].f0.size ≤ 1000) (hv : v.size ≤ 5000) (hf : l[j].f1 = 6 → l[j].f2 = 0 ∨ l[j].f2 = 1) :
    (if o.size + 1 ≤ 9223372036854775807 then (if (o ++ (⟨#[59]⟩ : ByteArray)).size + l[j].f0.size ≤ 9223372036854775807 then (if 0 ≤ (j : Int) then (if (j : Int) < (l.length : Int) then (if ((rd_T60 l (j : Int)).f1) = 6 then (if ((rd_T60 l (j : Int)).f2) = 1 then (glacisref05_Tail.l0 k l ((o ++ (⟨#[59]⟩ : ByteArray)) ++ l[j].f0) (wrap64 ((j : Int) + 1))) else (if ((o ++ (⟨#[59]⟩ : ByteArray)) ++ l[j].f0).size + 1 ≤ 9223372036854775807 then (if (((o ++ (⟨#[59]⟩ : ByteArray)) ++ l[j].f0) ++ (⟨#[61]⟩ : ByteArray)).size + v.size ≤ 9223372036854775807 then (glacisref05_Tail.l0 k l ((((o ++ (⟨#[59]⟩ : ByteArray)) ++ l[j].f0) ++ (⟨#[61]⟩ : ByteArray)) ++ v) (wrap64 ((j : Int) + 1))) else (none)) else (none))) else (if ((o ++ (⟨#[59]⟩ : ByteArray)) ++ l[j].f0).size + 1 ≤ 9223372036854775807 then (if (((o ++ (⟨#[59]⟩ : ByteArray)) ++ l[j].f0) ++ (⟨#[61]⟩ : ByteArray)).size + v.size ≤ 9223372036854775807 then (glacisref05_Tail.l0 k l ((((o ++ (⟨#[59]⟩ : ByteArray)) ++ l[j].f0) ++ (⟨#[61]⟩ : ByteArray)) ++ v) (wrap64 ((j : Int) + 1))) else (none)) else (none))) else (none)) else (none)) else (none)) else (none)) =
    glacisref05_Tail.l0 k l (partT l[j] o v) ((j + 1 : Nat) : Int) := by
  have z59 : (⟨#[59]⟩ : ByteArray).size = 1 := rfl
  have z61 : (⟨#[61]⟩ : ByteArray).size = 1 := rfl
  have s1 : (o ++ (⟨#[59]⟩ : ByteArray)).size ≤ 900001 := by rw [ByteArray.size_append]; omega
  have s2 : ((o ++ (⟨#[59]⟩ : ByteArray)) ++ l[j].f0).size ≤ 901001 := by rw [ByteArray.size_append]; omega
  have s3 : (((o ++ (⟨#[59]⟩ : ByteArray)) ++ l[j].f0) ++ (⟨#[61]⟩ : ByteArray)).size ≤ 901002 := by rw [ByteArray.size_append]; omega
  have p3 : (0 : Int) ≤ (j : Int) := by omega
  have p4 : (j : Int) < (l.length : Int) := by omega
  have hw := wrap_next j (by omega)
  have f1 := fit2 o.size 1 (by omega) (by omega)
  have f2 := fit2 (o ++ (⟨#[59]⟩ : ByteArray)).size l[j].f0.size (by omega) (by omega)
  have f3 := fit2 ((o ++ (⟨#[59]⟩ : ByteArray)) ++ l[j].f0).size 1 (by omega) (by omega)
  have f4 := fit2 (((o ++ (⟨#[59]⟩ : ByteArray)) ++ l[j].f0) ++ (⟨#[61]⟩ : ByteArray)).size v.size (by omega) (by omega)
  rw [if_pos f1, if_pos f2, if_pos p3, if_pos p4, rd_at5 l j hj, hw]
  have eA : partT l[j] o v = if l[j].f1 ≠ 6 ∨ l[j].f2 = 0 then (((o ++ (⟨#[59]⟩ : ByteArray)) ++ l[j].f0) ++ (⟨#[61]⟩ : ByteArray)) ++ v else (o ++ (⟨#[59]⟩ : ByteArray)) ++ l[j].f0 := by
    apply L_inj
    rw [part_L]
    split
    · rw [L_app, L_app, L_app, L_app]
      show _ = (((L o ++ [59]) ++ L l[j].f0) ++ [61]) ++ L v
      simp
    · rw [L_app, L_app]
      show _ = (L o ++ [59]) ++ L l[j].f0
      simp
  by_cases h6 : l[j].f1 = 6
  · rw [if_pos h6]
    by_cases h1 : l[j].f2 = 1
    · rw [if_pos h1, eA, if_neg (by rintro (h | h); exact h h6; rw [h1] at h; cases h)]
    · have h0 : l[j].f2 = 0 := (hf h6).resolve_right h1
      rw [if_neg h1, if_pos f3, if_pos f4, eA, if_pos (Or.inr h0)]
  · rw [if_neg h6, if_pos f3, if_pos f4, eA, if_pos (Or.inl h6)]
/-- Whether a key stands ahead. -/
theorem tail_l1 (l : List S60) (o v : ByteArray) (j : Nat) (hl : l.length ≤ 100) (hj : j < l.length) (ho : o.size ≤ 900000) (hk : l[j].f0.size ≤ 1000) (hv : v.size ≤ 5000) (hf : l[j].f1 = 6 → l[j].f2 = 0 ∨ l[j].f2 = 1) : ∀ (m x k : Nat), x + m = j → m < k →
    (l[j].f0 ∈ ((l.take j).drop x).map (·.f0) → glacisref05_Tail.l1 k l o (j : Int) l[j].f0 v (x : Int) = some (⟨#[]⟩, 50)) ∧
    (l[j].f0 ∉ ((l.take j).drop x).map (·.f0) → ∃ k', k ≤ k' + m + 1 ∧ glacisref05_Tail.l1 k l o (j : Int) l[j].f0 v (x : Int) = glacisref05_Tail.l0 k' l (partT l[j] o v) ((j + 1 : Nat) : Int))
  | 0, x, k, hm, hkk => by
    obtain ⟨k, rfl⟩ : ∃ k', k = k' + 1 := ⟨k - 1, by omega⟩
    have e : (l.take j).drop x = [] := List.drop_eq_nil_of_le (by rw [List.length_take]; omega)
    rw [e]
    refine ⟨fun h => (by cases h), fun _ => ⟨k, by omega, ?_⟩⟩
    rw [glacisref05_Tail.l1, if_neg (by omega)]
    exact tail_cont k j l o v hl hj ho hk hv hf
  | m + 1, x, k, hm, hkk => by
    obtain ⟨k, rfl⟩ : ∃ k', k = k' + 1 := ⟨k - 1, by omega⟩
    have hx : x < (l.take j).length := by rw [List.length_take]; omega
    have hxl : x < l.length := by omega
    have e : (l.take j).drop x = l[x] :: (l.take j).drop (x + 1) := by rw [List.drop_eq_getElem_cons hx, List.getElem_take]
    have ih := tail_l1 l o v j hl hj ho hk hv hf m (x + 1) k (by omega) (by omega)
    rw [glacisref05_Tail.l1, if_pos (by omega), if_pos (by omega), if_pos (by omega), rd_at5 l x hxl, wrap_next x (by omega), e, List.map_cons]
    by_cases h : l[x].f0 = l[j].f0
    · rw [if_pos (toList_inj.2 h)]
      refine ⟨fun _ => rfl, fun hn => absurd (by rw [h]; exact List.mem_cons_self ..) hn⟩
    · rw [if_neg (fun k => h (toList_inj.1 k))]
      refine ⟨fun hm' => ih.1 ((List.mem_cons.1 hm').resolve_left (fun k => h k.symm)), fun hn => ?_⟩
      obtain ⟨k', h1, h2⟩ := ih.2 (fun k => hn (List.mem_cons_of_mem _ k))
      exact ⟨k', by omega, h2⟩
theorem tail_l0 (l : List S60) (hl : l.length ≤ 100) (hs : ∀ q ∈ l, Short q) : ∀ (m j k : Nat) (o : ByteArray) (seen : List ByteArray), j + m = l.length → 200000 + 200 * m < k → (∀ x, x ∈ seen ↔ x ∈ (l.take j).map (·.f0)) → o.size + m * 4000 ≤ 500000 →
    ∃ r, tailF (l.drop j) seen o = some r ∧ glacisref05_Tail.l0 k l o (j : Int) = some r
  | 0, j, k, o, seen, hm, hk, hse, ho => by
    obtain ⟨k, rfl⟩ : ∃ k', k = k' + 1 := ⟨k - 1, by omega⟩
    have e : l.drop j = [] := List.drop_eq_nil_of_le (by omega)
    rw [e, tailF, glacisref05_Tail.l0, if_neg (by omega)]
    exact ⟨_, rfl, rfl⟩
  | m + 1, j, k, o, seen, hm, hk, hse, ho => by
    obtain ⟨k, rfl⟩ : ∃ k', k = k' + 2 := ⟨k - 2, by omega⟩
    have hj : j < l.length := by omega
    have hp := hs _ (List.getElem_mem hj)
    have hp1 := hp.1
    obtain ⟨v, b, v', e1, e2, e3, e4⟩ := Value_f l[j].f0 l[j].f1 l[j].f2 l[j].f3 hp.2 (k + 1) (by omega)
    have hp2 := hp.2
    rw [List.drop_eq_getElem_cons hj, tailF, e1]
    simp only [Option.bind_some]
    rw [if_neg (by simp only [Decidable.not_not]; refine ⟨by omega, by omega, by omega⟩)]
    have p3 : (0 : Int) ≤ (j : Int) := by omega
    have p4 : (j : Int) < (l.length : Int) := by omega
    rw [glacisref05_Tail.l0, if_pos p4, if_pos p3, rd_at5 l j hj, key_f _ (by omega) _ (by omega)]
    simp only [Option.bind_some]
    rw [e2]
    simp only [Option.bind_some]
    have no : ∀ x y : ByteArray, glacisref05_Tail.j1 (k + 1) l o (j : Int) x y true = some (⟨#[]⟩, 50) := fun x y => by rw [glacisref05_Tail.j1, if_pos rfl]
    by_cases hK : KT (L l[j].f0)
    · have hr := key_read (L l[j].f0) [] hK (fun c r' h => by cases h) l[j].f0 (by simp)
      rw [B_L] at hr
      rw [hr, if_pos (show (refK (some (l[j].f0, B []))).2.2 = 0 from rfl), if_pos (show (refK (some (l[j].f0, B []))).2.1.toList = ([] : List UInt8) by rw [L_toList]; exact L_B [])]
      cases b with
      | false =>
        have hb : badP l[j] false seen = true := by
          cases h : badP l[j] false seen with
          | true => rfl
          | false => exact absurd (bad_not h).2.1 (by decide)
        rw [hb, if_pos rfl]
        exact ⟨_, rfl, no _ _⟩
      | true =>
        have hvv := e3 rfl
        subst hvv
        have hf : l[j].f1 = 6 → l[j].f2 = 0 ∨ l[j].f2 = 1 := fun h6 => by
          have := value_back _ _ _ _ _ e1
          rw [h6] at this
          exact flag_any this
        have hl1 := tail_l1 l o v' j hl hj (by omega) hp1 (by omega) hf j 0 k (by omega) (by omega)
        rw [List.drop_zero] at hl1
        show ∃ r, _ ∧ glacisref05_Tail.j1 (k + 1) l o (j : Int) l[j].f0 v' (!true) = some r
        rw [glacisref05_Tail.j1, if_neg (show ¬ ((!true) = true) by decide)]
        by_cases hd : l[j].f0 ∈ (l.take j).map (·.f0)
        · have hb : badP l[j] true seen = true := by
            cases h : badP l[j] true seen with
            | true => rfl
            | false => exact absurd ((hse _).2 hd) (bad_not h).2.2
          rw [hb, if_pos rfl]
          exact ⟨_, rfl, hl1.1 hd⟩
        · rw [bad_of hK rfl (fun h => hd ((hse _).1 h)), if_neg (by decide)]
          obtain ⟨k', h1, h2⟩ := hl1.2 hd
          have hsz := part_size l[j] o v'
          obtain ⟨r, q1, q2⟩ := tail_l0 l hl hs m (j + 1) k' (partT l[j] o v') (l[j].f0 :: seen) (by omega) (by omega) (fun x => by
            rw [take_snoc l j hj, List.map_append, List.mem_cons, List.mem_append, hse x]
            simp only [List.map_cons, List.map_nil, List.mem_singleton]
            exact Or.comm) (by omega)
          exact ⟨r, q1, by rw [← q2]; exact h2⟩
    · have hb : badP l[j] b seen = true := by
        cases h : badP l[j] b seen with
        | true => rfl
        | false => exact absurd (bad_not h).1 hK
      rw [hb, if_pos rfl]
      refine ⟨_, rfl, ?_⟩
      by_cases c1 : (refK (rdKey l[j].f0)).2.2 = 0
      · rw [if_pos c1]
        by_cases c2 : (refK (rdKey l[j].f0)).2.1.toList = ([] : List UInt8)
        · exfalso
          apply hK
          have a1 : (keyF l[j].f0) = refK (rdKey l[j].f0) := by unfold keyF refK; cases rdKey l[j].f0 <;> rfl
          exact key_all (by rw [a1]; exact c1) (by rw [a1]; exact c2)
        · rw [if_neg c2]; exact no _ _
      · rw [if_neg c1]; exact no _ _
theorem Tail_f (l : List S60) (hl : l.length ≤ 100) (hs : ∀ q ∈ l, Short q) (k : Nat) (hk : 300000 ≤ k) : ∃ r, sfitem_Tail.f l = some r ∧ glacisref05_Tail.f k l = some r := by
  unfold sfitem_Tail.f glacisref05_Tail.f
  rw [if_pos (by omega)]
  have := tail_l0 l hl hs l.length 0 k ⟨#[]⟩ [] (by omega) (by omega) (fun x => by simp) (by show 0 + _ ≤ _; omega)
  exact this
theorem Text_f (n i : Int) (t : ByteArray) (l : List S60) (hl : l.length ≤ 100) (ht : t.size ≤ 1000) (hs : ∀ q ∈ l, Short q) (k : Nat) (hk : 300000 ≤ k) : ∃ r, sfitem_Text.f n i t l = some r ∧ glacisref05_Text.f k n i t l = some r := by
  obtain ⟨v, b, v', e1, e2, e3, e4⟩ := Value_f ⟨#[]⟩ n i t ht k (by omega)
  have z0 : (⟨#[]⟩ : ByteArray).size = 0 := rfl
  obtain ⟨o, e, ho, hoz⟩ := tail_any l [] ⟨#[]⟩ hs (by omega)
  obtain ⟨r, q1, q2⟩ := Tail_f l hl hs k hk
  have q3 : sfitem_Tail.f l = some (o, e) := by unfold sfitem_Tail.f; rw [if_pos (by omega), ho]
  obtain rfl : r = (o, e) := Option.some.inj (q1.symm.trans q3)
  unfold sfitem_Text.f glacisref05_Text.f
  rw [e1, e2, q1, q2]
  simp only [Option.bind_some]
  cases b with
  | false => exact ⟨_, rfl, rfl⟩
  | true =>
    rw [e3 rfl]
    have f := fit2 v.size o.size (by omega) (by omega)
    refine ⟨if e = 0 then (v ++ o, 0) else (⟨#[]⟩, 50), ?_, ?_⟩ <;>
    · by_cases he : e = 0
      · simp only [he, if_true, f]
      · simp only [he, if_true, if_false]
end Go.Proofs.YtjdbiicjfpgjkaaGreatDoor.Pl
namespace Go.Proofs.YtjdbiicjfpgjkaaGreatDoor.Q
open Go.RowKit Go.Proofs.YtjdbiicjfpgjkaaGreatDoorW.PrintWords Go.Proofs.YtjdbiicjfpgjkaaGreatDoorW.PrintLast Go.Proofs.YtjdbiicjfpgjkaaGreatDoorW.PrintMore
set_option linter.unusedVariables false
set_option linter.unusedSimpArgs false
def glacisref06_text.l0 : Nat → ByteArray → Int → ByteArray → Bool → Int → Int → ByteArray → List (S60) → List (S31) → List (S60) → Option (ByteArray × Bool)
 | 0, _, _, _, _, _, _, _, _, _, _ => none
 | k + 1, x7, x8, x563000, x563001, x563002, x563003, x563004, x563005, x563006, x563007 => if x8 < (x563006.length : Int) then (if 0 ≤ x8 then ((glacisref05_Text.f k ((rd_T31 x563006 x8).f0) ((rd_T31 x563006 x8).f1) ((rd_T31 x563006 x8).f2) ((rd_T31 x563006 x8).f3)).bind fun bt569 => (if bt569.2 = 0 then (if x8 > 0 then (if x7.size + 1 ≤ 9223372036854775807 then (if (x7 ++ (⟨#[32]⟩ : ByteArray)).size + bt569.1.size ≤ 9223372036854775807 then (glacisref06_text.l0 k ((x7 ++ (⟨#[32]⟩ : ByteArray)) ++ bt569.1) (wrap64 (x8 + 1)) x563000 x563001 x563002 x563003 x563004 x563005 x563006 x563007) else (none)) else (none)) else (if x7.size + bt569.1.size ≤ 9223372036854775807 then (glacisref06_text.l0 k (x7 ++ bt569.1) (wrap64 (x8 + 1)) x563000 x563001 x563002 x563003 x563004 x563005 x563006 x563007) else (none))) else (some ((⟨#[]⟩ : ByteArray), false)))) else (none)) else ((glacisref05_Tail.f k x563007).bind fun bt566 => (if x7.size + 1 ≤ 9223372036854775807 then (if (x7 ++ (⟨#[41]⟩ : ByteArray)).size + bt566.1.size ≤ 9223372036854775807 then (some ((x7 ++ (⟨#[41]⟩ : ByteArray)) ++ bt566.1, (bt566.2 == 0))) else (none)) else (none)))
def glacisref06_text.f (k : Nat) (a0_0 : ByteArray) (a0_1 : Bool) (a0_2 : Int) (a0_3 : Int) (a0_4 : ByteArray) (l0_5 : List (S60)) (l0_6 : List (S31)) (l0_7 : List (S60)) : Option (ByteArray × Bool) := if a0_1 = true then ((glacisref06_bare.f a0_2 a0_3 a0_4 l0_5).bind fun t565 => (if t565 = true then (glacisref06_text.l0 k (⟨#[40]⟩ : ByteArray) 0 a0_0 a0_1 a0_2 a0_3 a0_4 l0_5 l0_6 l0_7) else (some ((⟨#[]⟩ : ByteArray), false)))) else ((glacisref05_Text.f k a0_2 a0_3 a0_4 l0_5).bind fun bt563 => (if bt563.2 = 0 then (if (l0_6.length : Int) = 0 then (some (bt563.1, ((l0_7.length : Int) == 0))) else (some (bt563.1, false))) else (some (bt563.1, false))))
end Go.Proofs.YtjdbiicjfpgjkaaGreatDoor.Q
/- Chapter 6: few members' texts, by the program and by the document. -/
namespace Go.Proofs.YtjdbiicjfpgjkaaGreatDoor.Pl
open Go.RowKit Go.Proofs.YtjdbiicjfpgjkaaGreatDoor.Q Go.Proofs.YtjdbiicjfpgjkaaGreatDoor.Sf Go.Proofs.YtjdbiicjfpgjkaaGreatDoorW.PrintWords Go.Proofs.YtjdbiicjfpgjkaaGreatDoorW.PrintLast
set_option linter.unusedVariables false
set_option linter.unusedSimpArgs false
theorem few_item {x : S31} (h : fewI x = true) : x.f3.length ≤ 50 ∧ x.f2.size ≤ 200 ∧ ∀ q ∈ x.f3, Short q := by
  unfold fewI at h
  simp only [Bool.and_eq_true, decide_eq_true_eq, List.all_eq_true] at h
  refine ⟨h.1, h.2.1, fun q hq => ?_⟩
  have := h.2.2 q hq
  unfold fewP at this
  simp only [Bool.and_eq_true, decide_eq_true_eq] at this
  exact ⟨by omega, by omega⟩
theorem few_memb {m : S34} (h : fewM m = true) : m.f3.length ≤ 50 ∧ m.f4.length ≤ 50 ∧ m.f0.size ≤ 200 ∧ (∀ x ∈ m.f3, fewI x = true) ∧ fewI m.f2 = true ∧ ∀ q ∈ m.f4, Short q := by
  unfold fewM at h
  simp only [Bool.and_eq_true, decide_eq_true_eq, List.all_eq_true] at h
  obtain ⟨h1, h2, h3, h4⟩ := h
  unfold allI at h4
  refine ⟨h1, h2, h3, fun x hx => h4 x (List.mem_append_left _ hx), h4 m.f2 (List.mem_append_right _ (by simp)), ?_⟩
  exact (few_item (h4 ⟨0, 0, ⟨#[]⟩, m.f4⟩ (List.mem_append_right _ (by simp)))).2.2
theorem text_sz {n i : Int} {t : ByteArray} {l : List S60} (hl : l.length ≤ 100) (ht : t.size ≤ 1000) (hs : ∀ q ∈ l, Short q) {o : ByteArray} {e : Int} (h : sfitem_Text.f n i t l = some (o, e)) : o.size ≤ 2 * t.size + 20 + l.length * 4000 := by
  have z0 : (⟨#[]⟩ : ByteArray).size = 0 := rfl
  obtain ⟨v, b, hv, hvz⟩ := value_any ⟨#[]⟩ n i t ht
  obtain ⟨o2, e2, ho, hoz⟩ := tail_any l [] ⟨#[]⟩ hs (by omega)
  unfold sfitem_Text.f sfitem_Tail.f at h
  rw [hv, Option.bind_some, if_pos (by omega), ho, Option.bind_some] at h
  dsimp only at h
  split at h
  · split at h
    · rw [if_pos (by omega)] at h
      obtain ⟨rfl, _⟩ := Prod.mk.inj (Option.some.inj h)
      rw [ByteArray.size_append]; omega
    · obtain ⟨rfl, _⟩ := Prod.mk.inj (Option.some.inj h)
      omega
  · obtain ⟨rfl, _⟩ := Prod.mk.inj (Option.some.inj h)
    omega
/-- An item's text, by both. -/
theorem item_f {x : S31} (h : fewI x = true) (k : Nat) (hk : 300000 ≤ k) : ∃ o e, sfitem_Text.f x.f0 x.f1 x.f2 x.f3 = some (o, e) ∧ glacisref05_Text.f k x.f0 x.f1 x.f2 x.f3 = some (o, e) ∧ o.size ≤ 201000 := by
  obtain ⟨h1, h2, h3⟩ := few_item h
  obtain ⟨⟨o, e⟩, a1, a2⟩ := Text_f x.f0 x.f1 x.f2 x.f3 (by omega) (by omega) h3 k hk
  have := text_sz (by omega) (by omega) h3 a1
  exact ⟨o, e, a1, a2, by omega⟩
theorem tail_f6 {l : List S60} (hl : l.length ≤ 50) (hs : ∀ q ∈ l, Short q) (k : Nat) (hk : 300000 ≤ k) : ∃ o e, sfitem_Tail.f l = some (o, e) ∧ glacisref05_Tail.f k l = some (o, e) ∧ o.size ≤ 201000 := by
  obtain ⟨⟨o, e⟩, a1, a2⟩ := Tail_f l (by omega) hs k hk
  obtain ⟨o2, e2, ho, hoz⟩ := tail_any l [] ⟨#[]⟩ hs (by show 0 + _ ≤ _; omega)
  have z0 : (⟨#[]⟩ : ByteArray).size = 0 := rfl
  have a3 := a1
  unfold sfitem_Tail.f at a3
  rw [if_pos (by omega), ho] at a3
  obtain ⟨rfl, _⟩ := Prod.mk.inj (Option.some.inj a3)
  exact ⟨_, _, a1, a2, by omega⟩
theorem joinBA_nil (sep : ByteArray) : joinBA [] sep = ⟨#[]⟩ := rfl
theorem joinBA_snoc (l : List ByteArray) (x sep : ByteArray) : joinBA (l ++ [x]) sep = if l = [] then x else (joinBA l sep ++ sep) ++ x := by
  apply L_inj
  cases l with
  | nil =>
    rw [if_pos rfl, List.nil_append, join_L]
    simp
  | cons t ts =>
    rw [if_neg (by simp), List.cons_append, join_L, L_app, L_app, join_L]
    simp
theorem joinBA_le (sep : ByteArray) (c : Nat) (l : List ByteArray) (h : ∀ x ∈ l, x.size ≤ c) : (joinBA l sep).size ≤ l.length * (c + sep.size) := by
  have key : ∀ ts : List ByteArray, (∀ x ∈ ts, x.size ≤ c) → (ts.map (fun x => L sep ++ L x)).flatten.length ≤ ts.length * (c + sep.size) := by
    intro ts
    induction ts with
    | nil => intro _; simp
    | cons x ts ih =>
      intro h
      have h1 := h x (List.mem_cons_self ..)
      have h2 := ih (fun y hy => h y (List.mem_cons_of_mem _ hy))
      rw [List.map_cons, List.flatten_cons, List.length_append, List.length_append, List.length_cons, Nat.succ_mul, ← size_L, ← size_L]
      omega
  cases l with
  | nil => exact Nat.zero_le _
  | cons t ts =>
    have h1 := h t (List.mem_cons_self ..)
    have h2 := key ts (fun y hy => h y (List.mem_cons_of_mem _ hy))
    rw [size_L, join_L, List.length_append, List.length_cons, Nat.succ_mul, ← size_L]
    omega
theorem join_s {l : List ByteArray} {sep : ByteArray} (c : Nat) (h : ∀ x ∈ l, x.size ≤ c) (hl : l.length ≤ 1000) (hc : c ≤ 1000000000) (hs : sep.size ≤ 2) : strings_Join.f l sep = some (joinBA l sep) := by
  have h1 := joinBA_le sep c l h
  have h2 : l.length * (c + sep.size) ≤ 1000 * 1000000002 := Nat.mul_le_mul hl (by omega)
  exact if_pos ⟨by omega, by omega⟩
def brk (o : List ByteArray) : ByteArray := (⟨#[40]⟩ : ByteArray) ++ joinBA o ⟨#[32]⟩
theorem brk_snoc (o : List ByteArray) (t : ByteArray) (h : o ≠ []) : brk (o ++ [t]) = (brk o ++ (⟨#[32]⟩ : ByteArray)) ++ t := by
  unfold brk
  rw [joinBA_snoc, if_neg h]
  apply L_inj
  simp only [L_app, List.append_assoc]
theorem brk_one (t : ByteArray) : brk [t] = brk [] ++ t := by
  unfold brk
  have := joinBA_snoc [] t ⟨#[32]⟩
  rw [List.nil_append, if_pos rfl] at this
  rw [this, joinBA_nil]
  apply L_inj
  simp only [L_app, List.append_assoc]
  rfl
theorem brk_size (o : List ByteArray) (h : ∀ x ∈ o, x.size ≤ 201000) (hl : o.length ≤ 50) : (brk o).size ≤ 10100000 := by
  have h1 := joinBA_le ⟨#[32]⟩ 201000 o h
  have z1 : (⟨#[32]⟩ : ByteArray).size = 1 := rfl
  have z2 : (⟨#[40]⟩ : ByteArray).size = 1 := rfl
  have h2 : o.length * (201000 + 1) ≤ 50 * (201000 + 1) := Nat.mul_le_mul_right _ hl
  unfold brk
  rw [ByteArray.size_append]
  rw [z1] at h1
  omega
/-- What the loop over items answers. -/
def refI (x : Option (List ByteArray × Int)) (u : ByteArray × Int) : Option (ByteArray × Bool) := x.bind fun o => if o.2 = 0 then some ((brk o.1 ++ (⟨#[41]⟩ : ByteArray)) ++ u.1, u.2 == 0) else some (⟨#[]⟩, false)
theorem items_f (a0 : ByteArray) (a1 : Bool) (a2 a3 : Int) (a4 : ByteArray) (l5 : List S60) (l6 : List S31) (l7 : List S60) (h6 : l6.length ≤ 50) (hf : ∀ x ∈ l6, fewI x = true) (u : ByteArray × Int) (hu : ∀ k, 300000 ≤ k → glacisref05_Tail.f k l7 = some u) (hz : u.1.size ≤ 201000) :
    ∀ (m j k : Nat) (o : List ByteArray), j + m = l6.length → 300000 + m < k → o.length = j → (∀ x ∈ o, x.size ≤ 201000) →
      ∃ r, textL (l6.drop j) o = some r ∧ (r.2 = 0 → r.1.length ≤ 50 ∧ ∀ x ∈ r.1, x.size ≤ 201000) ∧ glacisref06_text.l0 k (brk o) (j : Int) a0 a1 a2 a3 a4 l5 l6 l7 = refI (some r) u
  | 0, j, k, o, hj, hk, ho, hx => by
    obtain ⟨k, rfl⟩ : ∃ k', k = k' + 1 := ⟨k - 1, by omega⟩
    have hb := brk_size o hx (by omega)
    have z1 : (⟨#[41]⟩ : ByteArray).size = 1 := rfl
    rw [List.drop_eq_nil_of_le (by omega), textL]
    refine ⟨_, rfl, fun _ => ⟨by dsimp only; omega, hx⟩, ?_⟩
    rw [glacisref06_text.l0, if_neg (by omega), hu k (by omega), Option.bind_some, if_pos (by omega), if_pos (by rw [ByteArray.size_append]; omega)]
    rfl
  | m + 1, j, k, o, hj, hk, ho, hx => by
    obtain ⟨k, rfl⟩ : ∃ k', k = k' + 1 := ⟨k - 1, by omega⟩
    have hjl : j < l6.length := by omega
    have hb := brk_size o hx (by omega)
    have z1 : (⟨#[32]⟩ : ByteArray).size = 1 := rfl
    obtain ⟨t, e, t1, t2, t3⟩ := item_f (hf _ (List.getElem_mem hjl)) k (by omega)
    rw [List.drop_eq_getElem_cons hjl, textL, t1, Option.bind_some, glacisref06_text.l0, if_pos (show (j : Int) < (l6.length : Int) by omega), if_pos (show 0 ≤ (j : Int) by omega), rd_item l6 j hjl, t2, Option.bind_some]
    dsimp only
    by_cases he : e = 0
    · rw [if_neg (show ¬ e ≠ 0 by simpa using he), if_pos (show o.length < 1000000 by omega), if_pos he]
      obtain ⟨r, r1, r2, r3⟩ := items_f a0 a1 a2 a3 a4 l5 l6 l7 h6 hf u hu hz m (j + 1) k (o ++ [t]) (by omega) (by omega) (by rw [List.length_append, List.length_singleton]; omega) (fun x h => by
        rcases List.mem_append.1 h with h | h
        · exact hx x h
        · rw [List.mem_singleton.1 h]; exact t3)
      refine ⟨r, r1, r2, ?_⟩
      rw [← r3, wrap_next j (by omega)]
      by_cases h0 : j = 0
      · obtain rfl : o = [] := List.length_eq_zero_iff.1 (by omega)
        rw [if_neg (by omega), if_pos (by omega), List.nil_append, brk_one]
      · have hne : o ≠ [] := fun h => by rw [h] at ho; exact h0 (by rw [← ho]; rfl)
        rw [if_pos (by omega), if_pos (by omega), if_pos (by rw [ByteArray.size_append]; omega), brk_snoc o t hne]
    · rw [if_pos (show e ≠ 0 from he), if_neg he]
      refine ⟨_, rfl, fun h => absurd h he, ?_⟩
      unfold refI
      rw [Option.bind_some, if_neg he]
theorem bare_f (a2 a3 : Int) (a4 : ByteArray) (l5 : List S60) : glacisref06_bare.f a2 a3 a4 l5 = some (!(decide (a2 ≠ 0 ∨ a3 ≠ 0 ∨ a4.toList ≠ [] ∨ l5.length > 0))) := by
  unfold glacisref06_bare.f
  by_cases h2 : a2 = 0
  · rw [if_pos h2]
    by_cases h3 : a3 = 0
    · rw [if_pos h3]
      by_cases h4 : a4.toList = []
      · rw [if_pos h4]
        by_cases h5 : l5.length = 0
        · simp [h2, h3, h4, h5]
        · have : 0 < l5.length := by omega
          have hb : ((l5.length : Int) == 0) = false := by rw [beq_eq_false_iff_ne]; omega
          rw [hb, decide_eq_true (.inr (.inr (.inr this)))]
          rfl
      · rw [if_neg h4]; simp [h4]
    · rw [if_neg h3]; simp [h3]
  · rw [if_neg h2]; simp [h2]
/-- A member's text, by both. -/
theorem text_f6 (m : S34) (h : fewM m = true) (kk k : Nat) (hk : 300100 ≤ k) :
    ∃ o e o' b, sfield_text.f kk m.f0 m.f1 m.f2.f0 m.f2.f1 m.f2.f2 m.f2.f3 m.f3 m.f4 = some (o, e) ∧ glacisref06_text.f k m.f0 m.f1 m.f2.f0 m.f2.f1 m.f2.f2 m.f2.f3 m.f3 m.f4 = some (o', b) ∧ b = decide (e = 0) ∧ (e = 0 → o' = o ∧ o.size ≤ 10400000) ∧ o.size ≤ 10400000 := by
  obtain ⟨h1, h2, h3, h4, h5, h6⟩ := few_memb h
  obtain ⟨t, e, t1, t2, t3⟩ := item_f h5 k (by omega)
  obtain ⟨u, ue, u1, u2, u3⟩ := tail_f6 h2 h6 k (by omega)
  have z0 : (⟨#[]⟩ : ByteArray).size = 0 := rfl
  unfold sfield_text.f glacisref06_text.f
  rw [if_neg (by simp only [Decidable.not_not]; omega)]
  cases hin : m.f1 with
  | false =>
    rw [if_pos rfl, if_neg (show ¬ (false = true) by decide), t1, t2, Option.bind_some]
    dsimp only
    by_cases hz : m.f3.length + m.f4.length > 0
    · rw [if_pos hz]
      by_cases he : e = 0
      · rw [if_pos he]
        by_cases h3z : (m.f3.length : Int) = 0
        · rw [if_pos h3z]
          refine ⟨_, _, _, _, rfl, rfl, ?_, fun k => (by cases k), by omega⟩
          rw [show decide ((50 : Int) = 0) = false from rfl, beq_eq_false_iff_ne]
          omega
        · rw [if_neg h3z]
          exact ⟨_, _, _, _, rfl, rfl, rfl, fun k => (by cases k), by omega⟩
      · rw [if_neg he]
        exact ⟨_, _, _, _, rfl, rfl, rfl, fun k => (by cases k), by omega⟩
    · rw [if_neg hz]
      by_cases he : e = 0
      · rw [if_pos he, if_pos (by omega)]
        refine ⟨_, _, _, _, rfl, rfl, ?_, fun _ => ⟨rfl, by omega⟩, by omega⟩
        rw [decide_eq_true he, beq_iff_eq]
        omega
      · rw [if_neg he]
        exact ⟨_, _, _, _, rfl, rfl, by rw [decide_eq_false he], fun k => absurd k he, by omega⟩
  | true =>
    rw [if_neg (show ¬ (true = false) by decide), if_pos rfl, bare_f, Option.bind_some]
    by_cases hb : m.f2.f0 ≠ 0 ∨ m.f2.f1 ≠ 0 ∨ m.f2.f2.toList ≠ [] ∨ m.f2.f3.length > 0
    · rw [if_pos hb, decide_eq_true hb, if_neg (by decide)]
      exact ⟨_, _, _, _, rfl, rfl, rfl, fun k => (by cases k), by omega⟩
    · rw [if_neg hb, decide_eq_false hb, if_pos (show (!false) = true from rfl)]
      obtain ⟨⟨o, oe⟩, r1, r2, r3⟩ := items_f m.f0 true m.f2.f0 m.f2.f1 m.f2.f2 m.f2.f3 m.f3 m.f4 h1 h4 (u, ue) (fun k' hk' => by
        obtain ⟨v, ve, v1, v2, v3⟩ := tail_f6 h2 h6 k' hk'
        rw [u1] at v1
        rw [v2, ← Option.some.inj v1]) u3 m.f3.length 0 k [] (by omega) (by omega) rfl (fun x hx => by cases hx)
      rw [List.drop_zero] at r1
      have e0 : brk [] = (⟨#[40]⟩ : ByteArray) := by unfold brk; rw [joinBA_nil]; rfl
      rw [e0] at r3
      rw [show ((0 : Nat) : Int) = 0 from rfl] at r3
      rw [r1, r3, Option.bind_some]
      unfold refI
      rw [Option.bind_some]
      dsimp only
      by_cases he : oe = 0
      · obtain ⟨g1, g2⟩ := r2 he
        dsimp only at g1 g2
        rw [if_neg (by simpa using he), if_pos he, u1, Option.bind_some, join_s 201000 g2 (by omega) (by omega) (by show (1 : Nat) ≤ 2; omega), Option.bind_some]
        have hs := brk_size o g2 g1
        have hj : (joinBA o ⟨#[32]⟩).size ≤ (brk o).size := by unfold brk; rw [ByteArray.size_append]; omega
        have z1 : (⟨#[41]⟩ : ByteArray).size = 1 := rfl
        have ep : parT (joinBA o ⟨#[32]⟩) u = (brk o ++ (⟨#[41]⟩ : ByteArray)) ++ u := rfl
        have hps : (parT (joinBA o ⟨#[32]⟩) u).size ≤ 10400000 := by
          rw [ep, ByteArray.size_append, ByteArray.size_append]; omega
        rw [if_pos ⟨by omega, by dsimp only; omega⟩]
        refine ⟨_, _, _, _, rfl, rfl, ?_, fun _ => ⟨rfl, hps⟩, hps⟩
        by_cases hue : ue = 0
        · rw [decide_eq_true hue, hue]; rfl
        · rw [decide_eq_false hue, beq_eq_false_iff_ne]; exact hue
      · rw [if_pos he, if_neg he]
        exact ⟨_, _, _, _, rfl, rfl, by rw [decide_eq_false he], fun k => absurd k he, by omega⟩
end Go.Proofs.YtjdbiicjfpgjkaaGreatDoor.Pl
/- Chapter 6: a list's and a dictionary's text, by the program and by the document. -/
namespace Go.Proofs.YtjdbiicjfpgjkaaGreatDoor.Pl
open Go.RowKit Go.Proofs.YtjdbiicjfpgjkaaGreatDoor.Q Go.Proofs.YtjdbiicjfpgjkaaGreatDoor.Sf Go.Proofs.YtjdbiicjfpgjkaaGreatDoorW.PrintWords Go.Proofs.YtjdbiicjfpgjkaaGreatDoorW.PrintLast
set_option linter.unusedVariables false
set_option linter.unusedSimpArgs false
/-- A list's text. -/
def listT : List S34 → List ByteArray → Option (ByteArray × Int)
  | [], o => (strings_Join.f o ⟨#[44, 32]⟩).bind fun t => some (t, 0)
  | m :: ms, o => (txt m).bind fun t => if t.2 = 0 then (if m.f0.toList = [] then listT ms (o ++ [t.1]) else some (⟨#[]⟩, 50)) else some (⟨#[]⟩, 50)
theorem list_l0 (l : List S34) (hl : l.length ≤ 1000000) : ∀ (m j k : Nat) (o : List ByteArray), j + m = l.length → m < k → o.length = j → sfield_ListText.l0 k o l (l.length : Int) (j : Int) = listT (l.drop j) o
  | 0, j, k, o, hj, hk, ho => by
    obtain ⟨k, rfl⟩ : ∃ k', k = k' + 1 := ⟨k - 1, by omega⟩
    rw [sfield_ListText.l0, if_neg (by omega), List.drop_eq_nil_of_le (by omega), listT]
  | m + 1, j, k, o, hj, hk, ho => by
    obtain ⟨k, rfl⟩ : ∃ k', k = k' + 1 := ⟨k - 1, by omega⟩
    have hjl : j < l.length := by omega
    rw [sfield_ListText.l0, if_pos (by omega), if_pos (by omega), if_pos (by omega), rd_memb l j hjl, List.drop_eq_getElem_cons hjl, listT]
    show (txt l[j]).bind _ = _
    cases txt l[j] with
    | none => rfl
    | some t =>
      rw [Option.bind_some, Option.bind_some]
      by_cases he : t.2 = 0
      · rw [if_pos he, if_pos he]
        by_cases hk0 : (l[j]).f0.toList = []
        · rw [if_pos hk0, if_pos hk0, if_pos (by omega), ← list_l0 l hl m (j + 1) k (o ++ [t.1]) (by omega) (by omega) (by rw [List.length_append, List.length_singleton]; omega)]
          rw [show wrap64 ((j : Int) + 1) = ((j + 1 : Nat) : Int) by unfold wrap64; omega]
        · rw [if_neg hk0, if_neg hk0]
      · rw [if_neg he, if_neg he]
theorem list_text (l : List S34) (hl : l.length ≤ 1000000) (k : Nat) (hk : l.length < k) : sfield_ListText.f k l = listT l [] := by
  unfold sfield_ListText.f
  exact list_l0 l hl l.length 0 k [] (by omega) hk rfl
def few50 (l : List S34) : Prop := l.length ≤ 50 ∧ ∀ m ∈ l, fewM m = true
theorem few_of {l : List S34} (h : fewL l = true) : few50 l := by
  unfold fewL at h
  simp only [Bool.and_eq_true, decide_eq_true_eq, List.all_eq_true] at h
  exact h
end Go.Proofs.YtjdbiicjfpgjkaaGreatDoor.Pl
/- Items between brackets are one member of a list, and the brackets' parameters are the member's: over the printed functions. -/
namespace Go.Proofs.YtjdbiicjfpgjkaaGreatDoor.Pure
open Go.RowKit Go.Proofs.YtjdbiicjfpgjkaaGreatDoor.Q Go.Proofs.YtjdbiicjfpgjkaaGreatDoor.Sf Go.Proofs.YtjdbiicjfpgjkaaGreatDoor.Pl Go.Proofs.YtjdbiicjfpgjkaaGreatDoorW.PrintWords Go.Proofs.YtjdbiicjfpgjkaaGreatDoorW.PrintLast
set_option linter.unusedVariables false
theorem items_total : ∀ (xs : List S31) (may : Bool) (t : ByteArray), (∀ x ∈ xs, fewI x = true) → t.size + xs.length * 201001 ≤ 1000000000 → ∃ z1 z2, itemsT xs may t = some (z1, z2) ∧ z2.size ≤ t.size + xs.length * 201001
  | [], may, t, _, _ => ⟨may, t, by rw [itemsT], by omega⟩
  | x :: xs, may, t, hf, hz => by
    rw [List.length_cons] at hz ⊢
    obtain ⟨o, e, t1, _, t3⟩ := item_f (hf x List.mem_cons_self) 300000 (by omega)
    have z1 : (⟨#[32]⟩ : ByteArray).size = 1 := rfl
    have hs : ((t ++ (⟨#[32]⟩ : ByteArray)) ++ o).size = t.size + 1 + o.size := by rw [ByteArray.size_append, ByteArray.size_append, z1]
    obtain ⟨a, b, i1, i2⟩ := items_total xs (may && decide (e = 0)) ((t ++ (⟨#[32]⟩ : ByteArray)) ++ o) (fun q hq => hf q (List.mem_cons_of_mem _ hq)) (by omega)
    exact ⟨a, b, by rw [itemsT, t1, Option.bind_some, if_pos (by dsimp only; omega)]; exact i1, by omega⟩
theorem items_ok : ∀ (xs : List S31) (may : Bool) (t z2 : ByteArray), itemsT xs may t = some (true, z2) → may = true ∧ ∃ ts, Txs ts xs ∧ L z2 = L t ++ (ts.map (fun x => (32 : UInt8) :: L x)).flatten ∧ ∀ o : List ByteArray, o.length + xs.length ≤ 1000000 → textL xs o = some (o ++ ts, 0)
  | [], may, t, z2, h => by
    rw [itemsT] at h
    obtain ⟨rfl, rfl⟩ := Prod.mk.inj (Option.some.inj h)
    exact ⟨rfl, [], Txs.nil, by simp, fun o _ => by rw [textL, List.append_nil]⟩
  | x :: xs, may, t, z2, h => by
    rw [itemsT] at h
    obtain ⟨⟨u, e⟩, hu, h⟩ := Option.bind_eq_some_iff.1 h
    dsimp only at h
    split at h
    · obtain ⟨h1, ts, h2, h3, h4⟩ := items_ok xs _ _ _ h
      simp only [Bool.and_eq_true, decide_eq_true_eq] at h1
      obtain ⟨rfl, rfl⟩ := h1
      refine ⟨rfl, u :: ts, Txs.cons u x ts xs (text_back hu) h2, ?_, fun o ho => ?_⟩
      · rw [h3, L_app, L_app, List.map_cons, List.flatten_cons]
        show ((L t ++ [32]) ++ L u) ++ _ = _
        simp
      · rw [List.length_cons] at ho
        rw [textL, hu, Option.bind_some]
        dsimp only
        rw [if_neg (by simp), if_pos (by omega), h4 (o ++ [u]) (by rw [List.length_append, List.length_singleton]; omega)]
        simp
    · cases h
theorem items_of : ∀ (xs : List S31) (o o' : List ByteArray) (t : ByteArray) (z1 : Bool) (z2 : ByteArray), textL xs o = some (o', 0) → itemsT xs true t = some (z1, z2) → z1 = true
  | [], o, o', t, z1, z2, _, h => by
    rw [itemsT] at h
    exact (Prod.mk.inj (Option.some.inj h)).1.symm
  | x :: xs, o, o', t, z1, z2, h, h' => by
    rw [textL] at h
    obtain ⟨⟨u, e⟩, hu, h⟩ := Option.bind_eq_some_iff.1 h
    dsimp only at h
    by_cases he : e = 0
    · rw [if_neg (show ¬ e ≠ 0 by simpa using he)] at h
      split at h
      · rw [itemsT, hu, Option.bind_some] at h'
        dsimp only at h'
        split at h'
        · rw [decide_eq_true he, Bool.and_true] at h'
          exact items_of xs _ _ _ _ _ h h'
        · cases h'
      · cases h
    · rw [if_pos (show e ≠ 0 from he)] at h
      exact absurd (Prod.mk.inj (Option.some.inj h)).2 he
theorem nt_two {ts : List ByteArray} {xs : List S31} (h : Txs ts xs) (p : List UInt8) (l : List S60) (hp : PT p [] l) : ∀ its : List S31, NT ((ts.map (fun x => (32 : UInt8) :: L x)).flatten ++ ([32, 32] ++ 41 :: p)) its (its ++ xs) l := by
  induction h with
  | nil =>
    intro its
    have := NT.shut [32, 32] p its l (fun c hc => by simpa using hc) hp
    simpa using this
  | cons t x ts xs h hs ih =>
    intro its
    have := NT.item [32] (L t) _ x its _ l (fun c hc => List.mem_singleton.1 hc) (fun _ => by simp) h (ih (its ++ [x]))
    simpa using this
/-- The brackets' text is read as the one member. -/
theorem read_one (l : List S31) (p : List S60) (z y : ByteArray) (hz : itemsT l true ⟨#[40]⟩ = some (true, z)) (hy : sfitem_Tail.f p = some (y, 0)) (hs : ((z ++ (⟨#[32, 32, 41]⟩ : ByteArray)) ++ y).size ≤ 4000) (k : Nat) (hk : 6000 < k) :
    sfield_List.f k ((z ++ (⟨#[32, 32, 41]⟩ : ByteArray)) ++ y) = some ([oneI l p], 0) := by
  obtain ⟨_, ts, h2, h3, _⟩ := items_ok l true _ z hz
  have hn := nt_two h2 (L y) p (tail_pt hy) []
  rw [List.nil_append] at hn
  have hm := MT.inn _ _ _ hn
  have e : L ((z ++ (⟨#[32, 32, 41]⟩ : ByteArray)) ++ y) = 40 :: ((ts.map (fun x => (32 : UInt8) :: L x)).flatten ++ ([32, 32] ++ 41 :: L y)) := by
    rw [L_app, L_app, h3]
    show (([40] ++ _) ++ [32, 32, 41]) ++ L y = _
    simp
  have hl := LT.one _ _ [] hm Ws.nil
  rw [List.append_nil, ← e] at hl
  have ht := trim_mid [] (L ((z ++ (⟨#[32, 32, 41]⟩ : ByteArray)) ++ y)) [] (fun _ h => by cases h) (fun _ h => by cases h) (LT.head32 tells_m hl) (by rw [e]; exact hm.last)
  rw [List.nil_append, List.append_nil] at ht
  rw [list_f _ (by omega) k hk, top_read tells_m (by rw [ht]; exact hl) k (by omega) hs]
  rfl
theorem list_long (s : ByteArray) (hs : (s.size : Int) > 4000) (k : Nat) : ∃ r, sfield_List.f k s = some r := by
  unfold sfield_List.f membersF
  rw [if_pos hs, Option.bind_some, if_pos (by simp)]
  exact ⟨_, rfl⟩
theorem list_any (s : ByteArray) (k : Nat) (hk : 6000 < k) : ∃ r, sfield_List.f k s = some r := by
  by_cases hs : (s.size : Int) > 4000
  · exact list_long s hs k
  · exact ⟨_, list_f s (by omega) k hk⟩
/-- The member's own text: an error just if an item has one, or the parameters. -/
theorem own_text (l : List S31) (p : List S60) (hm : fewM (oneI l p) = true) (z1 : Bool) (z2 y1 : ByteArray) (y2 : Int) (hz : itemsT l true ⟨#[40]⟩ = some (z1, z2)) (hy : sfitem_Tail.f p = some (y1, y2)) :
    ∃ o e, txt (oneI l p) = some (o, e) ∧ o.size ≤ 10400000 ∧ (e = 0 ↔ z1 = true ∧ y2 = 0) := by
  obtain ⟨o, e, _, _, t1, _, _, _, t5⟩ := text_f6 (oneI l p) hm 0 300100 (by omega)
  refine ⟨o, e, t1, t5, ?_⟩
  obtain ⟨h1, h2, _⟩ := few_memb hm
  have hl : l.length ≤ 50 := h1
  have hp : p.length ≤ 50 := h2
  unfold sfield_text.f oneI at t1
  dsimp only at t1
  rw [if_neg (by simp only [Decidable.not_not]; omega), if_neg (by decide), if_neg (by
    rintro (k | k | k | k)
    · exact k rfl
    · exact k rfl
    · exact k (by rw [L_toList]; rfl)
    · exact absurd k (by decide)), hy] at t1
  constructor
  · rintro rfl
    obtain ⟨⟨ts, te⟩, ht, t1⟩ := Option.bind_eq_some_iff.1 t1
    dsimp only at t1
    by_cases hte : te = 0
    · subst hte
      rw [if_neg (by simp), Option.bind_some] at t1
      obtain ⟨j, hj, t1⟩ := Option.bind_eq_some_iff.1 t1
      split at t1
      · obtain ⟨_, h2⟩ := Prod.mk.inj (Option.some.inj t1)
        exact ⟨items_of l _ _ _ _ _ ht hz, h2⟩
      · cases t1
    · rw [if_pos hte] at t1
      exact absurd (Prod.mk.inj (Option.some.inj t1)).2 hte
  · rintro ⟨rfl, rfl⟩
    obtain ⟨_, ts, _, _, h4⟩ := items_ok l true _ z2 hz
    rw [h4 [] (by rw [List.length_nil]; omega), Option.bind_some] at t1
    dsimp only at t1
    rw [if_neg (by simp), Option.bind_some] at t1
    obtain ⟨j, hj, t1⟩ := Option.bind_eq_some_iff.1 t1
    split at t1
    · exact (Prod.mk.inj (Option.some.inj t1)).2.symm
    · cases t1
theorem list_one (l : List S31) (p : List S60) (o : ByteArray) (e : Int) (h : txt (oneI l p) = some (o, e)) (ho : o.size ≤ 10400000) (k : Nat) (hk : 2 ≤ k) : ∃ q, sfield_ListText.f k [oneI l p] = some (q, if e = 0 then 0 else 50) := by
  rw [list_text _ (by simp) k (by simp; omega), listT, h, Option.bind_some]
  dsimp only
  by_cases he : e = 0
  · rw [if_pos he, if_pos (by rw [L_toList]; rfl), listT, join_s 10400000 (fun x hx => by
      have : x = o := by simpa using hx
      rw [this]; exact ho) (by simp) (by omega) (by show (2 : Nat) ≤ 2; omega), if_pos he]
    exact ⟨_, rfl⟩
  · rw [if_neg he, if_neg he]
    exact ⟨_, rfl⟩
theorem SfieldItemsAll (l : List S31) (p : List S60) : ∃ k, glacislaw06_SfieldItems.f k l p = some true := by
  refine ⟨400000, ?_⟩
  unfold glacislaw06_SfieldItems.f
  rw [if_neg (fun h => h (awake6 400000 (by omega)))]
  by_cases hb : fewL [oneI l p] = false ∨ l.length > 20
  · rw [if_pos hb]
  · rw [if_neg hb]
    have hfew : few50 [oneI l p] := few_of (by
      cases h : fewL [oneI l p] with
      | true => rfl
      | false => exact absurd (.inl h) hb)
    have hl20 : l.length ≤ 20 := Nat.le_of_not_lt (fun h => hb (.inr h))
    have hm := hfew.2 (oneI l p) List.mem_cons_self
    obtain ⟨m1, m2, m3, m4, m5, m6⟩ := few_memb hm
    have zp : (⟨#[40]⟩ : ByteArray).size = 1 := rfl
    obtain ⟨z1, z2, hz, hz2⟩ := items_total l true ⟨#[40]⟩ m4 (by rw [zp]; omega)
    obtain ⟨y1, y2, hy, _, hy3⟩ := tail_f6 (l := p) m2 m6 300000 (by omega)
    obtain ⟨o, e, t1, t2, t3⟩ := own_text l p hm z1 z2 y1 y2 hz hy
    obtain ⟨q, hq⟩ := list_one l p o e t1 t2 400000 (by omega)
    obtain ⟨⟨g1, g2⟩, hg⟩ := list_any ((z2 ++ (⟨#[32, 32, 41]⟩ : ByteArray)) ++ y1) 400000 (by omega)
    rw [hz, Option.bind_some, hy, Option.bind_some]
    dsimp only
    rw [hg, Option.bind_some, hq, Option.bind_some]
    dsimp only
    rw [if_neg (by simp only [Decidable.not_not]; exact ⟨by omega, by omega⟩)]
    by_cases hbad : z1 = false ∨ y2 ≠ 0
    · have he : e ≠ 0 := fun h => by
        obtain ⟨h1, h2⟩ := t3.1 h
        rcases hbad with h3 | h3
        · rw [h1] at h3; cases h3
        · exact h3 h2
      rw [if_pos hbad, if_neg he, if_pos rfl]
    · rw [if_neg hbad]
      have hz1 : z1 = true := by
        cases z1 with
        | true => rfl
        | false => exact absurd (.inl rfl) hbad
      have hy2 : y2 = 0 := Classical.byContradiction fun h => hbad (.inr h)
      subst hz1 hy2
      have he := t3.2 ⟨rfl, rfl⟩
      by_cases h39 : z2.size + y1.size > 3900
      · rw [if_pos h39]
      · rw [if_neg h39]
        have hsz : ((z2 ++ (⟨#[32, 32, 41]⟩ : ByteArray)) ++ y1).size ≤ 4000 := by
          rw [ByteArray.size_append, ByteArray.size_append, show (⟨#[32, 32, 41]⟩ : ByteArray).size = 3 from rfl]
          omega
        have hr := read_one l p z2 y1 hz hy hsz 400000 (by omega)
        rw [hg] at hr
        obtain ⟨rfl, rfl⟩ := Prod.mk.inj (Option.some.inj hr)
        refine if_pos ⟨membs_refl [oneI l p] (by simp) (fun q hq => ?_) 400000 (by omega), rfl, if_pos he⟩
        rw [List.mem_singleton.1 hq]
        exact ⟨by have := (few_item m5).1; omega, by omega, by omega, fun i hi => by have := (few_item (m4 i hi)).1; omega, by omega⟩
theorem SfieldItems : ∀ (a0 : List S31) (a1 : List S60), a0.length * 56 ≤ 140737488351232 → (∀ u0 : S31, u0 ∈ a0 → (Lit.int .i64 u0.f0).wf = true ∧ (Lit.int .i64 u0.f1).wf = true ∧ u0.f2.size ≤ 140737488351232 ∧ (u0.f3.length * 48 ≤ 140737488351232 ∧ ∀ u1 : S60, u1 ∈ u0.f3 → u1.f0.size ≤ 140737488351232 ∧ (Lit.int .i64 u1.f1).wf = true ∧ (Lit.int .i64 u1.f2).wf = true ∧ u1.f3.size ≤ 140737488351232)) → a1.length * 48 ≤ 140737488351232 → (∀ u0 : S60, u0 ∈ a1 → u0.f0.size ≤ 140737488351232 ∧ (Lit.int .i64 u0.f1).wf = true ∧ (Lit.int .i64 u0.f2).wf = true ∧ u0.f3.size ≤ 140737488351232) → ∃ k, glacislaw06_SfieldItems.f k a0 a1 = some true :=
  fun l p _ _ _ _ => SfieldItemsAll l p
end Go.Proofs.YtjdbiicjfpgjkaaGreatDoor.Pure
/- Arguments that are structs with slices, or slices of structs: what a row reads, over the printed structs. -/
namespace Go.Proofs.YtjdbiicjfpgjkaaGreatDoor.rg
set_option linter.unusedVariables false
set_option linter.unusedSimpArgs false
open Go.ChangeShapes Go.WideShapes Go.ChangeAt Go.RowKit Go.Deep
open Go.Proofs.YtjdbiicjfpgjkaaGreatDoor.Q Go.Proofs.YtjdbiicjfpgjkaaGreatDoorW.PrintWords Go.Proofs.YtjdbiicjfpgjkaaGreatDoorW.PrintLast
section
variable {H : Type} {enc : TypeId × Value → H} {W : World}
theorem weights_all {P : Program} {e : TypeId} : ∀ {l : List (DataW H)} {i : Nat} {d : DataW H}, l[i]? = some d → ∀ n ∈ d.weights P e, n ∈ DataW.weightsAll P e l
  | d0 :: l, 0, d, h, n, hn => by
    simp only [List.getElem?_cons_zero, Option.some.injEq] at h
    subst h
    simp only [DataW.weightsAll, List.mem_append]
    exact Or.inl hn
  | d0 :: l, i + 1, d, h, n, hn => by
    simp only [List.getElem?_cons_succ] at h
    simp only [DataW.weightsAll, List.mem_append]
    exact Or.inr (weights_all h n hn)
  | [], _, _, h, _, _ => by simp at h
theorem open_row {α : Type} [Inhabited α] {P : Program} {K : Kd α} {Bd : α → Prop} {t e : TypeId} {bytes : Nat} (ht : P.underlying t = some (.slice e)) (ce : P.cellsOf e = K.sz) (hb : P.bytesOf e = bytes)
    (he : ∀ (n : Nat) (cs : List Value) (x : DataW H × List MemPlace), DataW.trod enc P W 0 (fun _ => true) true n e cs = some x → (∀ n ∈ x.1.weights P e, n ≤ reachBytes) → ∃ y : α, K.K W y cs ∧ Bd y)
    {fuel : Nat} {cs : List Value} {x : DataW H × List MemPlace} (h : DataW.trod enc P W 0 (fun _ => true) true fuel t cs = some x) (hz : ∀ n ∈ x.1.weights P t, n ≤ reachBytes) :
    ∃ (A : Option Addr) (cc : Nat) (l : List α), cs = [.slice A l.length cc] ∧ l.length ≤ cc ∧ Kd.C K W A l.length l ∧ l.length * bytes ≤ reachBytes ∧ ∀ y ∈ l, Bd y := by
  rcases open_slice ht h with ⟨rfl, _⟩ | ⟨a, len, cap, m, n, D, Pl, rfl, _, hl, hm, hmm, rfl, hx⟩
  · exact ⟨none, 0, [], rfl, Nat.le_refl _, ⟨rfl, by simp, fun hn => absurd hn (by simp)⟩, by simp, fun x hx => by cases hx⟩
  · have hlm : len ≤ m := by rw [hmm]; simp; omega
    have each : ∀ i, i < len → ∃ y : α, Bd y ∧ ∃ c, c.length = K.sz ∧ K.K W y c ∧ ∀ j u, c[j]? = some u → W.cell? (a.add (i * K.sz + j)) = some u := by
      intro i hi
      obtain ⟨c, h1, h2⟩ := hx i (by omega)
      obtain ⟨_, hlen, hcell⟩ := World.cells?_some h1
      obtain ⟨y, hy, hB⟩ := he n c _ h2 (by
        intro w hw
        refine hz w ?_
        simp only [DataW.weights, ht, List.mem_cons, List.mem_append]
        right; left
        exact weights_all (i := i) (by rw [List.getElem?_map, List.getElem?_range hi]; rfl) w hw)
      refine ⟨y, hB, c, by rw [hlen, ce], hy, fun j u hu => ?_⟩
      have hj : j < c.length := (List.getElem?_eq_some_iff.1 hu).1
      have := hcell j (by omega)
      rw [Go.Deep.add_add, ce] at this
      rw [this]; exact hu
    obtain ⟨F, hF⟩ := choose_lt each
    have hlen : ((List.range len).map F).length = len := by simp
    refine ⟨some a, cap, (List.range len).map F, by rw [hlen], by rw [hlen]; exact hl, ⟨rfl, by rw [hlen]; have := hm; unfold maxLen at this; omega, fun _ => ⟨a, rfl, ?_⟩⟩, ?_, ?_⟩
    · intro j y hj
      have hjl : j < len := by
        have := (List.getElem?_eq_some_iff.1 hj).1
        simpa using this
      have hx' : y = F j := by
        rw [List.getElem?_map, List.getElem?_range hjl] at hj
        exact (Option.some.inj hj).symm
      subst hx'
      exact (hF j hjl).2
    · rw [hlen]
      have := hz ((len + (m - len)) * P.bytesOf e) (by simp [DataW.weights, ht])
      rw [hb] at this
      have h2 : len * bytes ≤ (len + (m - len)) * bytes := Nat.mul_le_mul_right _ (by omega)
      omega
    · intro y hy
      obtain ⟨i, hi, rfl⟩ := List.mem_map.1 hy
      exact (hF i (List.mem_range.1 hi)).1
theorem list4 {α : Type} {l : List α} (h : l.length = 4) : ∃ c0 c1 c2 c3, l = [c0, c1, c2, c3] := by
  match l, h with
  | [c0, c1, c2, c3], _ => exact ⟨c0, c1, c2, c3, rfl⟩
theorem open_s60 (fuel : Nat) (cs : List Value) (x : DataW H × List MemPlace) (h : DataW.trod enc Tryz.prog W 0 (fun _ => true) true fuel 60 cs = some x) (hz : ∀ n ∈ x.1.weights Tryz.prog 60, n ≤ reachBytes) :
    ∃ y : S60, k60.K W y cs ∧ (y.f0.size ≤ reachBytes ∧ (Lit.int .i64 y.f1).wf = true ∧ (Lit.int .i64 y.f2).wf = true ∧ y.f3.size ≤ reachBytes) := by
  obtain ⟨xs, n, rfl, rfl, hl, hxl, hf⟩ := DataW.trod_struct Tryz.underlying60 h
  rw [show Tryz.prog.cellsOf 60 = 4 by kernel_rfl] at hl
  obtain ⟨c0, c1, c2, c3, rfl⟩ := list4 hl
  obtain ⟨y0, y1, y2, y3, rfl⟩ := list4 (show xs.length = 4 from hxl)
  have hz' : ∀ n, (n ∈ y0.1.weights Tryz.prog 9 ∨ n ∈ y1.1.weights Tryz.prog 3 ∨ n ∈ y2.1.weights Tryz.prog 3 ∨ n ∈ y3.1.weights Tryz.prog 9) → n ≤ reachBytes := fun n hn => hz n (by simpa [DataW.weights, Tryz.underlying60, DataW.weightsEach] using hn)
  clear hz
  have g0 : DataW.trod enc Tryz.prog W 0 (fun _ => true) true n 9 [c0] = some y0 := by simpa [show Tryz.prog.cellsOf 9 = 1 by kernel_rfl] using hf 0 _ rfl
  obtain ⟨a0, e0, x0, _⟩ := DataW.trod_string Tryz.underlying9 g0
  have w0 : a0.size ≤ reachBytes := by
    have z := hz' a0.data.toList.length (.inl (by rw [x0]; simp [DataW.weights]))
    rw [Array.length_toList] at z
    exact z
  simp only [List.cons.injEq, and_true] at e0
  subst e0
  have g1 : DataW.trod enc Tryz.prog W 0 (fun _ => true) true n 3 [c1] = some y1 := by simpa [show Tryz.prog.cellsOf 3 = 1 by kernel_rfl] using hf 1 _ rfl
  obtain ⟨a1, e1, x1, w1⟩ := DataW.trod_int Tryz.underlying3 g1
  simp only [List.cons.injEq, and_true] at e1
  subst e1
  have g2 : DataW.trod enc Tryz.prog W 0 (fun _ => true) true n 3 [c2] = some y2 := by simpa [show Tryz.prog.cellsOf 3 = 1 by kernel_rfl] using hf 2 _ rfl
  obtain ⟨a2, e2, x2, w2⟩ := DataW.trod_int Tryz.underlying3 g2
  simp only [List.cons.injEq, and_true] at e2
  subst e2
  have g3 : DataW.trod enc Tryz.prog W 0 (fun _ => true) true n 9 [c3] = some y3 := by simpa [show Tryz.prog.cellsOf 9 = 1 by kernel_rfl] using hf 3 _ rfl
  obtain ⟨a3, e3, x3, _⟩ := DataW.trod_string Tryz.underlying9 g3
  have w3 : a3.size ≤ reachBytes := by
    have z := hz' a3.data.toList.length (.inr (.inr (.inr (by rw [x3]; simp [DataW.weights]))))
    rw [Array.length_toList] at z
    exact z
  simp only [List.cons.injEq, and_true] at e3
  subst e3
  exact ⟨⟨a0, a1, a2, a3⟩, k60_mk W ⟨a0, a1, a2, a3⟩ , w0, w1, w2, w3⟩
theorem open_s29 (fuel : Nat) (cs : List Value) (x : DataW H × List MemPlace) (h : DataW.trod enc Tryz.prog W 0 (fun _ => true) true fuel 29 cs = some x) (hz : ∀ n ∈ x.1.weights Tryz.prog 29, n ≤ reachBytes) :
    ∃ (A : Option Addr) (cc : Nat) (l : List S60), cs = [.slice A l.length cc] ∧ l.length ≤ cc ∧ Kd.C k60 W A l.length l ∧ l.length * 48 ≤ reachBytes ∧ ∀ y : S60, y ∈ l → y.f0.size ≤ reachBytes ∧ (Lit.int .i64 y.f1).wf = true ∧ (Lit.int .i64 y.f2).wf = true ∧ y.f3.size ≤ reachBytes := by
  haveI : Inhabited S60 := ⟨z60⟩
  exact open_row (K := k60) (Bd := fun y : S60 => y.f0.size ≤ reachBytes ∧ (Lit.int .i64 y.f1).wf = true ∧ (Lit.int .i64 y.f2).wf = true ∧ y.f3.size ≤ reachBytes) Tryz.underlying29 (by kernel_rfl) (by kernel_rfl) open_s60 h hz
theorem open_s31 (fuel : Nat) (cs : List Value) (x : DataW H × List MemPlace) (h : DataW.trod enc Tryz.prog W 0 (fun _ => true) true fuel 31 cs = some x) (hz : ∀ n ∈ x.1.weights Tryz.prog 31, n ≤ reachBytes) :
    ∃ y : S31, k31.K W y cs ∧ ((Lit.int .i64 y.f0).wf = true ∧ (Lit.int .i64 y.f1).wf = true ∧ y.f2.size ≤ reachBytes ∧ (y.f3.length * 48 ≤ reachBytes ∧ ∀ u0 : S60, u0 ∈ y.f3 → u0.f0.size ≤ reachBytes ∧ (Lit.int .i64 u0.f1).wf = true ∧ (Lit.int .i64 u0.f2).wf = true ∧ u0.f3.size ≤ reachBytes)) := by
  obtain ⟨xs, n, rfl, rfl, hl, hxl, hf⟩ := DataW.trod_struct Tryz.underlying31 h
  rw [show Tryz.prog.cellsOf 31 = 4 by kernel_rfl] at hl
  obtain ⟨c0, c1, c2, c3, rfl⟩ := list4 hl
  obtain ⟨y0, y1, y2, y3, rfl⟩ := list4 (show xs.length = 4 from hxl)
  have hz' : ∀ n, (n ∈ y0.1.weights Tryz.prog 3 ∨ n ∈ y1.1.weights Tryz.prog 3 ∨ n ∈ y2.1.weights Tryz.prog 9 ∨ n ∈ y3.1.weights Tryz.prog 29) → n ≤ reachBytes := fun n hn => hz n (by simpa [DataW.weights, Tryz.underlying31, DataW.weightsEach] using hn)
  clear hz
  have g0 : DataW.trod enc Tryz.prog W 0 (fun _ => true) true n 3 [c0] = some y0 := by simpa [show Tryz.prog.cellsOf 3 = 1 by kernel_rfl] using hf 0 _ rfl
  obtain ⟨a0, e0, x0, w0⟩ := DataW.trod_int Tryz.underlying3 g0
  simp only [List.cons.injEq, and_true] at e0
  subst e0
  have g1 : DataW.trod enc Tryz.prog W 0 (fun _ => true) true n 3 [c1] = some y1 := by simpa [show Tryz.prog.cellsOf 3 = 1 by kernel_rfl] using hf 1 _ rfl
  obtain ⟨a1, e1, x1, w1⟩ := DataW.trod_int Tryz.underlying3 g1
  simp only [List.cons.injEq, and_true] at e1
  subst e1
  have g2 : DataW.trod enc Tryz.prog W 0 (fun _ => true) true n 9 [c2] = some y2 := by simpa [show Tryz.prog.cellsOf 9 = 1 by kernel_rfl] using hf 2 _ rfl
  obtain ⟨a2, e2, x2, _⟩ := DataW.trod_string Tryz.underlying9 g2
  have w2 : a2.size ≤ reachBytes := by
    have z := hz' a2.data.toList.length (.inr (.inr (.inl (by rw [x2]; simp [DataW.weights]))))
    rw [Array.length_toList] at z
    exact z
  simp only [List.cons.injEq, and_true] at e2
  subst e2
  have g3 : DataW.trod enc Tryz.prog W 0 (fun _ => true) true n 29 [c3] = some y3 := by simpa [show Tryz.prog.cellsOf 29 = 1 by kernel_rfl] using hf 3 _ rfl
  obtain ⟨A3, n3, a3, e3, l3, C3, w3, z3⟩ := open_s29 _ _ _ g3 (fun n hn => hz' n (.inr (.inr (.inr hn))))
  simp only [List.cons.injEq, and_true] at e3
  subst e3
  exact ⟨⟨a0, a1, a2, a3⟩, k31_mk W ⟨a0, a1, a2, a3⟩ l3 C3, w0, w1, w2, ⟨w3, z3⟩⟩
theorem open_s32 (fuel : Nat) (cs : List Value) (x : DataW H × List MemPlace) (h : DataW.trod enc Tryz.prog W 0 (fun _ => true) true fuel 32 cs = some x) (hz : ∀ n ∈ x.1.weights Tryz.prog 32, n ≤ reachBytes) :
    ∃ (A : Option Addr) (cc : Nat) (l : List S31), cs = [.slice A l.length cc] ∧ l.length ≤ cc ∧ Kd.C k31 W A l.length l ∧ l.length * 56 ≤ reachBytes ∧ ∀ y : S31, y ∈ l → (Lit.int .i64 y.f0).wf = true ∧ (Lit.int .i64 y.f1).wf = true ∧ y.f2.size ≤ reachBytes ∧ (y.f3.length * 48 ≤ reachBytes ∧ ∀ u0 : S60, u0 ∈ y.f3 → u0.f0.size ≤ reachBytes ∧ (Lit.int .i64 u0.f1).wf = true ∧ (Lit.int .i64 u0.f2).wf = true ∧ u0.f3.size ≤ reachBytes) := by
  haveI : Inhabited S31 := ⟨z31⟩
  exact open_row (K := k31) (Bd := fun y : S31 => (Lit.int .i64 y.f0).wf = true ∧ (Lit.int .i64 y.f1).wf = true ∧ y.f2.size ≤ reachBytes ∧ (y.f3.length * 48 ≤ reachBytes ∧ ∀ u0 : S60, u0 ∈ y.f3 → u0.f0.size ≤ reachBytes ∧ (Lit.int .i64 u0.f1).wf = true ∧ (Lit.int .i64 u0.f2).wf = true ∧ u0.f3.size ≤ reachBytes)) Tryz.underlying32 (by kernel_rfl) (by kernel_rfl) open_s31 h hz
set_option maxRecDepth 20000 in
theorem open_p29 {base : Nat} {v : Value} {d : DataW H} {p : List MemPlace} (hv : Value.okWide Tryz.prog W .any base 29 v) (h : DataW.Trod enc Tryz.prog W 0 (fun _ => true) true 29 v d p)
    (hz : ∀ n ∈ d.weights Tryz.prog 29, n ≤ reachBytes) :
    ∃ (A0 : Option Addr) (c0 : Nat) (a0 : List S60), v = .slice A0 a0.length c0 ∧ a0.length ≤ c0 ∧ Kd.C k60 W A0 a0.length a0 ∧ a0.length * 48 ≤ reachBytes ∧ ∀ u0 : S60, u0 ∈ a0 → u0.f0.size ≤ reachBytes ∧ (Lit.int .i64 u0.f1).wf = true ∧ (Lit.int .i64 u0.f2).wf = true ∧ u0.f3.size ≤ reachBytes := by
  obtain ⟨b0, n0, m0, rfl⟩ := okWide_slice Tryz.underlying29 hv
  obtain ⟨fuel, hf⟩ := h
  obtain ⟨A0, c0, a0, e, hl, hC, hb, ha⟩ := open_s29 _ _ _ hf (by exact hz)
  simp [Value.cells] at e
  obtain ⟨rfl, e2, e3⟩ := e
  rw [e2, e3]
  exact ⟨_, _, a0, rfl, hl, hC, hb, ha⟩
set_option maxRecDepth 20000 in
theorem open_p32 {base : Nat} {v : Value} {d : DataW H} {p : List MemPlace} (hv : Value.okWide Tryz.prog W .any base 32 v) (h : DataW.Trod enc Tryz.prog W 0 (fun _ => true) true 32 v d p)
    (hz : ∀ n ∈ d.weights Tryz.prog 32, n ≤ reachBytes) :
    ∃ (A0 : Option Addr) (c0 : Nat) (a0 : List S31), v = .slice A0 a0.length c0 ∧ a0.length ≤ c0 ∧ Kd.C k31 W A0 a0.length a0 ∧ a0.length * 56 ≤ reachBytes ∧ ∀ u0 : S31, u0 ∈ a0 → (Lit.int .i64 u0.f0).wf = true ∧ (Lit.int .i64 u0.f1).wf = true ∧ u0.f2.size ≤ reachBytes ∧ (u0.f3.length * 48 ≤ reachBytes ∧ ∀ u1 : S60, u1 ∈ u0.f3 → u1.f0.size ≤ reachBytes ∧ (Lit.int .i64 u1.f1).wf = true ∧ (Lit.int .i64 u1.f2).wf = true ∧ u1.f3.size ≤ reachBytes) := by
  obtain ⟨b0, n0, m0, rfl⟩ := okWide_slice Tryz.underlying32 hv
  obtain ⟨fuel, hf⟩ := h
  obtain ⟨A0, c0, a0, e, hl, hC, hb, ha⟩ := open_s32 _ _ _ hf (by exact hz)
  simp [Value.cells] at e
  obtain ⟨rfl, e2, e3⟩ := e
  rw [e2, e3]
  exact ⟨_, _, a0, rfl, hl, hC, hb, ha⟩
end
end Go.Proofs.YtjdbiicjfpgjkaaGreatDoor.rg
/- The law glacis/glacislaw06.SfieldItems, for every input: its call returns true and leaves its arguments as they were; the row, and its card. Its conditions: the row's own. -/
namespace Go.Proofs.YtjdbiicjfpgjkaaGreatDoor.sfieldItems
open Go.ChangeShapes Go.WideShapes Go.ChangeAt Go.RowKit
open Go.Proofs.YtjdbiicjfpgjkaaGreatDoor.Q Go.Proofs.YtjdbiicjfpgjkaaGreatDoor Go.Proofs.YtjdbiicjfpgjkaaGreatDoorW.PrintWords Go.Proofs.YtjdbiicjfpgjkaaGreatDoorW.PrintLast
open Go.ChangeMaps (open_string shut_string)
open Go.Proofs.YtjdbiicjfpgjkaaGreatDoor.rc
set_option linter.unusedVariables false
theorem walk (W : World) (hT : Aside0 (Q.TabW W)) (A0 : Option Addr) (c0 : Nat) (A1 : Option Addr) (c1 : Nat) (a0 : List S31) (a1 : List S60) (C0 : Kd.C k31 W A0 a0.length a0) (lc0 : a0.length ≤ c0) (C1 : Kd.C k60 W A1 a1.length a1) (lc1 : a1.length ≤ c1) (h0 : a0.length * 56 ≤ 140737488351232) (h1 : (∀ u0 : S31, u0 ∈ a0 → (Lit.int .i64 u0.f0).wf = true ∧ (Lit.int .i64 u0.f1).wf = true ∧ u0.f2.size ≤ 140737488351232 ∧ (u0.f3.length * 48 ≤ 140737488351232 ∧ ∀ u1 : S60, u1 ∈ u0.f3 → u1.f0.size ≤ 140737488351232 ∧ (Lit.int .i64 u1.f1).wf = true ∧ (Lit.int .i64 u1.f2).wf = true ∧ u1.f3.size ≤ 140737488351232))) (h2 : a1.length * 48 ≤ 140737488351232) (h3 : (∀ u0 : S60, u0 ∈ a1 → u0.f0.size ≤ 140737488351232 ∧ (Lit.int .i64 u0.f1).wf = true ∧ (Lit.int .i64 u0.f2).wf = true ∧ u0.f3.size ≤ 140737488351232)) :
    Calls Tryz.prog 8 #[.slice A0 a0.length c0, .slice A1 a1.length c1] W fun e w' => e = .returned (.bool true) ∧ Below W.heap.size W w' := by
  obtain ⟨k, h⟩ := YtjdbiicjfpgjkaaGreatDoor.Pure.SfieldItems a0 a1 h0 h1 h2 h3
  refine (YtjdbiicjfpgjkaaGreatDoor.Q.glacislaw06_SfieldItems.calls k A0 c0 a0 A1 c1 a1 true W hT C0 lc0 C1 lc1 h).mono ?_
  rintro e w' ⟨rfl, hd⟩
  first | exact ⟨rfl, hd⟩ | exact ⟨rfl, hd.below⟩
set_option maxRecDepth 100000 in
theorem contract (H : Type) (enc : TypeId × Value → H) (W : World) (hT : Aside0 (Q.TabW W)) (base : Nat) (args : Array Value) (ds gs : List (DataW H)) (before : List MemPlace)
    (hval : ∀ (j : Nat) t v, Tryz.f8.params[j]? = some t → args[j]? = some v → Value.okWide Tryz.prog W .any base t v)
    (hW : DataW.Whole enc Tryz.prog Tryz.f8.params.toList Rows.sfieldItemsSpec.vars false W args.toList ds gs before)
    (hsz : (DataW.weightsEach Tryz.prog (Tryz.f8.params.toList ++ Rows.sfieldItemsSpec.plain.varTypes Tryz.prog) (ds ++ gs)).all (· ≤ reachBytes) = true) :
    Calls Tryz.prog 8 args W fun e W' => ∃ v, e = .returned v ∧ Rows.sfieldItemsSpec.post enc Tryz.prog Tryz.f8 false true false false W args v W' := by
  have hW' := hW
  obtain ⟨p, q, hA0, hV, rfl, hfz, hnd⟩ := hW
  have hA : DataW.TrodAll enc Tryz.prog W 0 (fun _ => true) true Tryz.f8.params.toList args.toList ds p := hA0
  rw [Tryz.params8] at hA hval hsz
  obtain ⟨v0, vs0, d0, ds0, p0, q0, hargs, rfl, rfl, h0, r0⟩ := trodAll_cons hA
  obtain ⟨v1, vs1, d1, ds1, p1, q1, rfl, rfl, rfl, h1, r1⟩ := trodAll_cons r0
  obtain ⟨rfl, rfl, rfl⟩ := trodAll_nil r1
  obtain rfl : args = #[v0, v1] := by cases args; simp_all
  obtain ⟨rfl, rfl⟩ := trodVars_none hV
  have g0 := h0
  have hz0 : ∀ n ∈ d0.weights Tryz.prog 32, n ≤ reachBytes := fun n hn => by
    have z := List.all_eq_true.1 hsz n (DataW.weights_mem_each (j := 0) (t := 32) rfl rfl n hn)
    simpa using z
  obtain ⟨A0, c0, a0, e0, lc0, C0, w0a, w0b⟩ := rg.open_p32 (hval 0 32 v0 rfl rfl) h0 hz0
  subst e0
  have t0 : ∀ W', Below W.heap.size W W' → DataW.Trod enc Tryz.prog W' 0 (fun b => decide (b < W.heap.size)) true 32 _ d0 p0 := fun W' hb => Below.trod laidOut (by kernel_rfl) (of_decide_eq_true (by kernel_rfl)) g0 hb (fun x hx => hW'.lt x (by simp [hx]))
  have g1 := h1
  have hz1 : ∀ n ∈ d1.weights Tryz.prog 29, n ≤ reachBytes := fun n hn => by
    have z := List.all_eq_true.1 hsz n (DataW.weights_mem_each (j := 1) (t := 29) rfl rfl n hn)
    simpa using z
  obtain ⟨A1, c1, a1, e1, lc1, C1, w1a, w1b⟩ := rg.open_p29 (hval 1 29 v1 rfl rfl) h1 hz1
  subst e1
  have t1 : ∀ W', Below W.heap.size W W' → DataW.Trod enc Tryz.prog W' 0 (fun b => decide (b < W.heap.size)) true 29 _ d1 p1 := fun W' hb => Below.trod laidOut (by kernel_rfl) (of_decide_eq_true (by kernel_rfl)) g1 hb (fun x hx => hW'.lt x (by simp [hx]))
  clear hA0
  refine (walk W hT A0 c0 A1 c1 a0 a1 C0 lc0 C1 lc1 w0a w0b w1a w1b).mono fun e W' ⟨he, bel⟩ => ?_
  subst he
  exact ⟨_, rfl, _, _, _, [], _, [], hW', trodAll_mk1 (shut_bool Tryz.underlying4 _), (trodAll_cons_mk (t0 _ bel) (trodAll_cons_mk (t1 _ bel) trodAll_mk0)), rfl, bel.frame _, fun h => by cases h⟩
theorem laid_met (os : Os) : laidMet Tryz.prog Rows.sfieldItemsRow.laid ((laidWorld os).forCall (fun _ _ => 0) ⟨#[], #[.slice none 0 0, .slice none 0 0], []⟩).memory :=
  laidMet_of_run' 8 (by kernel_rfl) (by kernel_rfl)
theorem reads (os : Os) {H : Type} (enc : TypeId × Value → H) : ∃ places, DataW.whole enc Tryz.prog ((laidWorld os).forCall (fun _ _ => 0) ⟨#[], #[.slice none 0 0, .slice none 0 0], []⟩).memory Tryz.f8.params.toList Rows.sfieldItemsSpec.vars false (#[.slice none 0 0, .slice none 0 0] : Array Value).toList 8 = some ([.nil, .nil], [], places) :=
  ⟨[], by kernel_rfl⟩
set_option maxRecDepth 100000 in
theorem lifted (os : Os) (started : os.Started) (H : Type) (enc : TypeId × Value → H) (F : Stop.Interp) :
    ReturnsInHanded {} Tryz.checked os 8 .any ((OpenSpec.ofChange Rows.sfieldItemsSpec).preRow enc Tryz.prog Tryz.f8 Rows.sfieldItemsRow.domain false Rows.sfieldItemsRow.laid) (((OpenSpec.ofChange Rows.sfieldItemsSpec).at F).post enc Tryz.prog Tryz.f8 false true false false) := by
  obtain ⟨places, hx⟩ := reads os enc
  refine returnsInHanded_of_row (C := Tryz.checked) (s := (OpenSpec.ofChange Rows.sfieldItemsSpec)) own started (by kernel_rfl) Tryz.func8
    (witness_row_at (enc := enc) (C := Tryz.checked) false (laidWorld os) #[.slice none 0 0, .slice none 0 0] rfl (by kernel_rfl) (by kernel_rfl) (by kernel_rfl)
      (OpenSpec.preRow_of_cond 8 hx (by kernel_rfl) (fun k hk => by cases hk) (by kernel_rfl) (laid_met os))) ?_
  intro W base args ds gs before hval hW _ hcond hsz hL _ _
  have hL1 := laidMet.tail hL
  have hL2 := laidMet.tail hL1
  have hT : Lib.TabIs Tryz.prog W "internal/strconv.uint64pow10" .u64 Lib.pow10Tab := Lib.tabIs_of_head (g := 3) (by kernel_rfl) (by kernel_rfl) Tryz.underlying149 Tryz.underlying137 (by kernel_rfl) (by kernel_rfl) hL2
  exact contract H enc W (Aside0.mk hT) base args ds gs before hval hW hsz
theorem said : Rows.SfieldItemsSaid :=
  OpenClaim.holds_of_cond 8 Tryz.f8 rfl rfl rfl rfl rfl rfl rfl ⟨rfl, rfl, rfl, rfl, rfl⟩ rfl rfl rfl rfl rfl (by kernel_rfl) Tryz.func8 (by kernel_rfl)
    (of_decide_eq_true (by kernel_rfl)) (by unfold Func.isWrapper; first | (rw [if_pos (by decide +kernel)]; kernel_rfl) | (rw [if_neg (by decide +kernel)]; exact ⟨rfl, rfl⟩))
    (fun os started H enc _ F => by rw [OpenClaim.pre_eq_preRow]; exact lifted os started H enc F)
theorem plain (f : FuncId) (fn : Func) (hf : Tryz.pinned.checked.prog.funcNamed "glacis/glacislaw06.SfieldItems" = some f) (hfn : Tryz.pinned.checked.prog.funcs[f]? = some fn) :
    true = Tryz.pinned.checked.prog.looks [] ∧ ∀ (j : Nat) t, fn.params[j]? = some t → Tryz.pinned.checked.prog.wantsStandIn t = false := by
  obtain rfl : f = 8 := Option.some.inj ((show Tryz.prog.funcNamed "glacis/glacislaw06.SfieldItems" = some 8 by kernel_rfl).symm.trans hf) |>.symm
  obtain rfl : fn = Tryz.f8 := (Option.some.inj (Tryz.func8.symm.trans hfn)).symm
  refine ⟨by kernel_rfl, fun j t ht => ?_⟩
  rw [Tryz.params8] at ht
  have hm : t ∈ [32, 29] := by simpa using Array.mem_of_getElem? ht
  have hall : ([32, 29].all fun u => !Tryz.prog.wantsStandIn u) = true := by kernel_rfl
  exact (show Tryz.prog.wantsStandIn t = false by simpa using List.all_eq_true.1 hall t hm)
/-- THE CARD. -/
theorem card : Rows.SfieldItemsCardSaid :=
  Claim7.holds_tied_plain_at .later [] _ _ _ _ said (fun _ h => by cases h) (by kernel_rfl) (fun _ h => by cases h) sfieldItems_row_tie rfl ⟨rfl, rfl⟩ (by kernel_rfl) rfl plain (by kernel_rfl)
#print axioms card
end Go.Proofs.YtjdbiicjfpgjkaaGreatDoor.sfieldItems
