/- The law SfitemBegins: its row and card. Its conditions: the row's own. -/
import Derived.Test.YtbbaokjkmcfceaaGreatDoorZb4
import Derived.Lib.LaidTab
import Derived.Stop.LaidErr
/- Chapter 5: the document's own reader: texts in quotes, values, keys, parameters, items. -/
namespace Go.Proofs.YtbbaokjkmcfceaaGreatDoor.Pl
open Go.RowKit Go.Proofs.YtbbaokjkmcfceaaGreatDoor.Q Go.Proofs.YtbbaokjkmcfceaaGreatDoor.Sf Go.Proofs.YtbbaokjkmcfceaaGreatDoorW.PrintWords Go.Proofs.YtbbaokjkmcfceaaGreatDoorW.PrintLast
set_option linter.unusedVariables false
set_option linter.unusedSimpArgs false
theorem nums_snoc (xs : List Int) (s : ByteArray) (i : Nat) (h : i < s.size) : strOfNums (xs ++ [bt s i]) = strOfNums xs ++ s.extract i (i + 1) := by
  have hl : i < (L s).length := by rw [← size_L]; exact h
  apply L_inj
  rw [bt_L s i hl, num_app xs _ _ rfl, L_app, L_extm, drop_cons _ _ hl]
  rw [show i + 1 - i = 1 by omega]; rfl
theorem ext_size (s : ByteArray) (i : Nat) (h : i < s.size) : (s.extract i (i + 1)).size = 1 := by rw [ByteArray.size_extract]; omega
theorem fits (a b : Nat) (ha : a ≤ 100000) (hb : b = 1) : a + b ≤ 9223372036854775807 := by omega
theorem qF_shut (d : Nat) (s : ByteArray) (xs : List Int) (h0 : 0 < s.size) (h : bt s 0 = 34) : qF (d + 1) s xs = some (strOfNums xs, tl s) := by
  rw [qF, if_pos h0, if_pos h]
theorem qF_nil (d : Nat) (s : ByteArray) (xs : List Int) (h0 : ¬ 0 < s.size) : qF (d + 1) s xs = none := by
  rw [qF, if_neg h0]
theorem qF_bad (d : Nat) (s : ByteArray) (xs : List Int) (h0 : 0 < s.size) (h : bt s 0 ≠ 34) (hb : bt s 0 < 32 ∨ 126 < bt s 0) : qF (d + 1) s xs = none := by
  rw [qF, if_pos h0, if_neg h, if_pos (by rcases hb with h | h; exact Or.inl h; exact Or.inr (Or.inl h))]
theorem wi_of {c : UInt8} (h : (c.toNat : Int) = 34 ∨ (c.toNat : Int) = 92) : wiP c.toNat ⟨#[34, 92]⟩ = true := by
  rw [wiQ]; exact decide_eq_true (by omega)
theorem wi_not {c : UInt8} (h : ¬ ((c.toNat : Int) = 34 ∨ (c.toNat : Int) = 92)) : ¬ wiP c.toNat ⟨#[34, 92]⟩ = true := by
  rw [wiQ]; intro e; have := of_decide_eq_true e; omega
theorem qF_esc (d : Nat) (s : ByteArray) (xs : List Int) (h0 : 0 < s.size) (h : bt s 0 = 92) (h1 : 0 < (tl s).size) (hq : bt (tl s) 0 = 34 ∨ bt (tl s) 0 = 92) : qF (d + 1) s xs = qF d (tl (tl s)) (xs ++ [bt (tl s) 0]) := by
  obtain ⟨c, hc⟩ := bt_u (tl s) 0 h1
  have hc' : bt (tl s) 0 = (c.toNat : Int) := hc
  rw [hc'] at hq
  have hw := wi_of hq
  rw [← hc'] at hw
  rw [qF, if_pos h0, if_neg (by rw [h]; decide), if_neg (by
    rintro (k | k | ⟨_, k⟩)
    · rw [h] at k; exact absurd k (by decide)
    · rw [h] at k; exact absurd k (by decide)
    · exact k ⟨h1, hw⟩), if_pos h]
theorem qF_escbad (d : Nat) (s : ByteArray) (xs : List Int) (h0 : 0 < s.size) (h : bt s 0 = 92) (hq : ¬ (0 < (tl s).size ∧ (bt (tl s) 0 = 34 ∨ bt (tl s) 0 = 92))) : qF (d + 1) s xs = none := by
  rw [qF, if_pos h0, if_neg (by rw [h]; decide), if_pos (by
    refine Or.inr (Or.inr ⟨h, fun k => ?_⟩)
    obtain ⟨c, hc⟩ := bt_u (tl s) 0 k.1
    have hc' : bt (tl s) 0 = (c.toNat : Int) := hc
    have k2 := k.2
    rw [hc'] at hq k2
    exact wi_not (fun e => hq ⟨k.1, e⟩) k2)]
theorem qF_plain (d : Nat) (s : ByteArray) (xs : List Int) (h0 : 0 < s.size) (h : bt s 0 ≠ 34) (h1 : ¬ bt s 0 < 32) (h2 : ¬ 126 < bt s 0) (h3 : bt s 0 ≠ 92) : qF (d + 1) s xs = qF d (tl s) (xs ++ [bt s 0]) := by
  rw [qF, if_pos h0, if_neg h, if_neg (by
    rintro (k | k | ⟨k, _⟩)
    · exact h1 k
    · exact h2 k
    · exact h3 k), if_neg h3]
theorem r_shut (k i : Nat) (s o : ByteArray) (hs : s.size ≤ 100000) (hi : i < s.size) (h : bt s i = 34) : glacisref05_quoted.l0 (k + 1) s o (i : Int) = some (⟨#[]⟩, 3, 0, o, s.extract (i + 1) s.size, true) := by
  rw [glacisref05_quoted.l0, if_pos (by omega), if_pos (by omega), if_pos h, wrap_next i (by omega), if_pos (by omega), if_pos (by omega)]; rfl
theorem r_nil (k i : Nat) (s o : ByteArray) (hi : ¬ i < s.size) : glacisref05_quoted.l0 (k + 1) s o (i : Int) = some (refV none) := by
  rw [glacisref05_quoted.l0, if_neg (by omega)]; rfl
theorem r_j (k i : Nat) (s o : ByteArray) (hi : i < s.size) (h : bt s i ≠ 34) : glacisref05_quoted.l0 (k + 1) s o (i : Int) = glacisref05_quoted.j1 k s o i (decide (bt s i < 32 ∨ 126 < bt s i)) := by
  rw [glacisref05_quoted.l0, if_pos (by omega), if_pos (by omega), if_neg h]
  by_cases h1 : bt s i < 32
  · rw [if_pos h1, decide_eq_true (Or.inl h1)]
  · rw [if_neg h1]
    by_cases h2 : bt s i > 126
    · rw [decide_eq_true h2, decide_eq_true (Or.inr h2)]
    · rw [decide_eq_false h2, decide_eq_false (by rintro (k | k); exact h1 k; exact h2 k)]
theorem r_bad (k i : Nat) (s o : ByteArray) (hi : i < s.size) (h : bt s i ≠ 34) (hb : bt s i < 32 ∨ 126 < bt s i) : glacisref05_quoted.l0 (k + 2) s o (i : Int) = some (refV none) := by
  rw [r_j (k + 1) i s o hi h, decide_eq_true hb, glacisref05_quoted.j1, if_pos rfl]; rfl
theorem r_plain (k i : Nat) (s o : ByteArray) (hs : s.size ≤ 100000) (hi : i < s.size) (ho : o.size ≤ 100000) (h : bt s i ≠ 34) (hb : ¬ (bt s i < 32 ∨ 126 < bt s i)) (h9 : bt s i ≠ 92) : glacisref05_quoted.l0 (k + 2) s o (i : Int) = glacisref05_quoted.l0 k s (o ++ s.extract i (i + 1)) ((i + 1 : Nat) : Int) := by
  have p1 : ((i : Int)) ≤ (((i + 1 : Nat) : Int)) := by omega
  have p2 : (((i + 1 : Nat) : Int)) ≤ (s.size : Int) := by omega
  have p3 : (0 : Int) ≤ (i : Int) := by omega
  have p4 : (i : Int) < (s.size : Int) := by omega
  have hw := wrap_next i (by omega)
  rw [r_j (k + 1) i s o hi h, decide_eq_false hb, glacisref05_quoted.j1, if_neg (by decide), if_pos p3, if_pos p4, if_neg h9, hw, if_pos p1, if_pos p2]
  simp only [Int.toNat_natCast]
  rw [if_pos (fits _ _ ho (ext_size s i hi))]
theorem r_esc (k i : Nat) (s o : ByteArray) (hs : s.size ≤ 100000) (hi : i + 1 < s.size) (ho : o.size ≤ 100000) (h9 : bt s i = 92) (hq : bt s ((i + 1 : Nat) : Int) = 34 ∨ bt s ((i + 1 : Nat) : Int) = 92) : glacisref05_quoted.l0 (k + 2) s o (i : Int) = glacisref05_quoted.l0 k s (o ++ s.extract (i + 1) (i + 1 + 1)) ((i + 1 + 1 : Nat) : Int) := by
  have p1 : (((i + 1 : Nat) : Int)) ≤ (((i + 1 + 1 : Nat) : Int)) := by omega
  have p2 : (((i + 1 + 1 : Nat) : Int)) ≤ (s.size : Int) := by omega
  have p3 : (0 : Int) ≤ (i : Int) := by omega
  have p4 : (i : Int) < (s.size : Int) := by omega
  have p5 : ¬ (((i + 1 : Nat) : Int)) = (s.size : Int) := by omega
  have p6 : (0 : Int) ≤ (((i + 1 : Nat) : Int)) := by omega
  have p7 : (((i + 1 : Nat) : Int)) < (s.size : Int) := by omega
  have hw := wrap_next i (by omega)
  have hw2 := wrap_next (i + 1) (by omega)
  rw [r_j (k + 1) i s o (by omega) (by rw [h9]; decide), decide_eq_false (by rw [h9]; decide), glacisref05_quoted.j1, if_neg (by decide), if_pos p3, if_pos p4, if_pos h9, hw, if_neg p5, if_pos p6, if_pos p7, hw2]
  rcases hq with hq | hq
  · rw [if_pos hq, if_pos p1, if_pos p2]
    simp only [Int.toNat_natCast]
    rw [if_pos (fits _ _ ho (ext_size s (i + 1) hi))]
  · rw [if_neg (by rw [hq]; decide), if_pos hq, if_pos p1, if_pos p2]
    simp only [Int.toNat_natCast]
    rw [if_pos (fits _ _ ho (ext_size s (i + 1) hi))]
theorem r_escbad (k i : Nat) (s o : ByteArray) (hs : s.size ≤ 100000) (hi : i < s.size) (h9 : bt s i = 92) (hq : ¬ (i + 1 < s.size ∧ (bt s ((i + 1 : Nat) : Int) = 34 ∨ bt s ((i + 1 : Nat) : Int) = 92))) : glacisref05_quoted.l0 (k + 2) s o (i : Int) = some (refV none) := by
  have p3 : (0 : Int) ≤ (i : Int) := by omega
  have p4 : (i : Int) < (s.size : Int) := by omega
  have hw := wrap_next i (by omega)
  rw [r_j (k + 1) i s o hi (by rw [h9]; decide), decide_eq_false (by rw [h9]; decide), glacisref05_quoted.j1, if_neg (by decide), if_pos p3, if_pos p4, if_pos h9, hw]
  by_cases he : i + 1 = s.size
  · rw [if_pos (show (((i + 1 : Nat) : Int)) = (s.size : Int) by omega)]; rfl
  · have h1 : i + 1 < s.size := by omega
    have p6 : (0 : Int) ≤ (((i + 1 : Nat) : Int)) := by omega
    have p7 : (((i + 1 : Nat) : Int)) < (s.size : Int) := by omega
    rw [if_neg (show ¬ (((i + 1 : Nat) : Int)) = (s.size : Int) by omega), if_pos p6, if_pos p7, if_neg (fun e => hq ⟨h1, Or.inl e⟩), if_neg (fun e => hq ⟨h1, Or.inr e⟩)]; rfl
theorem bt_ext (s : ByteArray) (i : Nat) (h : i < s.size) : bt (s.extract i s.size) 0 = bt s i := by
  have hl : i < (L s).length := by rw [← size_L]; exact h
  have e : L (s.extract i s.size) = (L s)[i] :: (L s).drop (i + 1) := by rw [L_ext, drop_cons _ _ hl]
  rw [bt0 e, bt_L s i hl]
theorem quoted_l (s : ByteArray) (hs : s.size ≤ 100000) : ∀ (d i k : Nat) (xs : List Int), s.size < i + d → i ≤ s.size → 2 * s.size + 2 < k + 2 * i → (strOfNums xs).size ≤ i →
    glacisref05_quoted.l0 k s (strOfNums xs) (i : Int) = some (refV ((qF d (s.extract i s.size) xs).map mkQ))
  | 0, i, k, xs, hd, hi, hk, hx => by omega
  | d + 1, i, k, xs, hd, hi, hk, hx => by
    obtain ⟨k, rfl⟩ : ∃ k', k = k' + 2 := ⟨k - 2, by omega⟩
    have hz : (s.extract i s.size).size + i = s.size := by rw [ByteArray.size_extract]; omega
    have ho : (strOfNums xs).size ≤ 100000 := Nat.le_trans hx (Nat.le_trans hi hs)
    by_cases h : i < s.size
    · have hb := bt_ext s i h
      have h0 : 0 < (s.extract i s.size).size := by omega
      by_cases c34 : bt s i = 34
      · rw [r_shut (k + 1) i s _ hs h c34, qF_shut d _ xs h0 (hb.trans c34), tl_ext]; rfl
      by_cases cb : bt s i < 32 ∨ 126 < bt s i
      · rw [r_bad k i s _ h c34 cb, qF_bad d _ xs h0 (by rw [hb]; exact c34) (by rw [hb]; exact cb)]; rfl
      by_cases c92 : bt s i = 92
      · have hz1 : (s.extract (i + 1) s.size).size + (i + 1) = s.size := by rw [ByteArray.size_extract]; omega
        by_cases hq : i + 1 < s.size ∧ (bt s ((i + 1 : Nat) : Int) = 34 ∨ bt s ((i + 1 : Nat) : Int) = 92)
        · have hb1 := bt_ext s (i + 1) hq.1
          rw [r_esc k i s _ hs hq.1 ho c92 hq.2, qF_esc d _ xs h0 (hb.trans c92) (by rw [tl_ext]; omega) (by rw [tl_ext, hb1]; exact hq.2), tl_ext, tl_ext, hb1, ← nums_snoc xs s (i + 1) hq.1]
          refine quoted_l s hs d (i + 1 + 1) k _ (by omega) (by omega) (by omega) ?_
          rw [nums_snoc xs s (i + 1) hq.1, ByteArray.size_append, ext_size s (i + 1) hq.1]; omega
        · rw [r_escbad k i s _ hs h c92 hq, qF_escbad d _ xs h0 (hb.trans c92) (by
            rw [tl_ext]
            rintro ⟨k1, k2⟩
            have h1 : i + 1 < s.size := by omega
            rw [bt_ext s (i + 1) h1] at k2
            exact hq ⟨h1, k2⟩)]
          rfl
      · rw [r_plain k i s _ hs h ho c34 cb c92, qF_plain d _ xs h0 (by rw [hb]; exact c34) (by rw [hb]; exact fun e => cb (Or.inl e)) (by rw [hb]; exact fun e => cb (Or.inr e)) (by rw [hb]; exact c92), tl_ext, hb, ← nums_snoc xs s i h]
        refine quoted_l s hs d (i + 1) k _ (by omega) (by omega) (by omega) ?_
        rw [nums_snoc xs s i h, ByteArray.size_append, ext_size s i h]; omega
    · rw [r_nil (k + 1) i s _ h, qF_nil d _ xs (by omega)]; rfl
theorem quoted_f (s : ByteArray) (hs : s.size ≤ 100000) (h0 : 0 < s.size) (k : Nat) (hk : 2 * s.size + 10 < k) : glacisref05_quoted.f k s = some (refV (rdQuoted (tl s))) := by
  unfold glacisref05_quoted.f rdQuoted
  have z := tl_lt s h0
  rw [z]
  have := quoted_l s hs s.size 1 k [] (by omega) (by omega) (by omega) (by show (0 : Nat) ≤ 1; omega)
  exact this
theorem tok_l (s : ByteArray) (hs : s.size ≤ 100000) : ∀ (m x k : Nat), x + m = s.size → m + 17 < k → (∀ j : Nat, j < x → tokP (bt s j) = true) → glacisref05_value.l0 k s (x : Int) = some (refV (some ((4, 0, takB tokP s), drpB tokP s)))
  | 0, x, k, hm, hk, hj => by
    obtain ⟨k, rfl⟩ : ∃ k', k = k' + 1 := ⟨k - 1, by omega⟩
    have e := span_eq tokP s x (by omega) hj (fun h => by omega)
    rw [glacisref05_value.l0, if_neg (by omega), if_pos (by omega), if_pos (by omega)]
    unfold takB drpB
    rw [e]; rfl
  | m + 1, x, k, hm, hk, hj => by
    obtain ⟨k, rfl⟩ : ∃ k', k = k' + 1 := ⟨k - 1, by omega⟩
    obtain ⟨c, hc⟩ := bt_u s x (by omega)
    rw [glacisref05_value.l0, if_pos (by omega), if_pos (by omega), hc, tokens_u c k (by omega)]
    simp only [Option.bind_some]
    by_cases hd : tokP c.toNat = true
    · rw [if_pos hd, wrap_next x (by omega)]
      refine tok_l s hs m (x + 1) k (by omega) (by omega) (fun j hjx => ?_)
      by_cases e : j = x
      · subst e; rw [hc]; exact hd
      · exact hj j (by omega)
    · have e := span_eq tokP s x (by omega) hj (fun _ => by rw [hc]; exact Bool.eq_false_iff.mpr hd)
      rw [if_neg hd, if_pos (by omega)]
      unfold takB drpB
      rw [e]; rfl
theorem base_l (s : ByteArray) (hs : s.size ≤ 100000) (h0 : 0 < s.size) : ∀ (m x k : Nat), x + 1 + m = s.size → m < k → (∀ j : Nat, j < x → baP (bt (tl s) j) = true) → glacisref05_value.l1 k s ((x + 1 : Nat) : Int) = some (refV (rdBytes (tl s)))
  | 0, x, k, hm, hk, hj => by
    obtain ⟨k, rfl⟩ : ∃ k', k = k' + 1 := ⟨k - 1, by omega⟩
    have hz := tl_lt s h0
    have e := span_eq baP (tl s) x (by omega) hj (fun h => by omega)
    rw [glacisref05_value.l1, if_neg (by omega), if_pos (by omega)]
    unfold rdBytes
    rw [drp_is, e, atF_ext, decide_eq_false (by omega), if_neg (by decide)]; rfl
  | m + 1, x, k, hm, hk, hj => by
    obtain ⟨k, rfl⟩ : ∃ k', k = k' + 1 := ⟨k - 1, by omega⟩
    have hz := tl_lt s h0
    have hb : bt (tl s) (x : Int) = bt s ((x + 1 : Nat) : Int) := bt_tl s x (by omega)
    obtain ⟨c, hc⟩ := bt_u s (x + 1) (by omega)
    rw [glacisref05_value.l1, if_pos (by omega), if_pos (by omega), hc, base_u c]
    simp only [Option.bind_some]
    by_cases hd : baP c.toNat = true
    · rw [if_pos hd, wrap_next _ (by omega)]
      refine base_l s hs h0 m (x + 1) k (by omega) (by omega) (fun j hjx => ?_)
      by_cases e : j = x
      · subst e; rw [hb, hc]; exact hd
      · exact hj j (by omega)
    · have e := span_eq baP (tl s) x (by omega) hj (fun _ => by rw [hb, hc]; exact Bool.eq_false_iff.mpr hd)
      rw [if_neg hd, if_neg (by omega)]
      unfold rdBytes
      rw [drp_is, e, atF_ext, hb, hc]
      by_cases h58 : (c.toNat : Int) = 58
      · rw [if_pos h58, decide_eq_true ⟨by omega, h58⟩, if_pos rfl, if_pos (by omega), if_pos (by omega), wrap_next _ (by omega), if_pos (by omega), if_pos (by omega), refV_some]
        have e1 : s.extract 1 (((x + 1 : Nat) : Int)).toNat = takB baP (tl s) := by
          apply L_inj
          unfold takB
          rw [e, L_ext0, L_tl, L_extm]
          rw [show (((x + 1 : Nat) : Int)).toNat - 1 = x by omega, List.drop_one]
        have e2 : s.extract (((x + 1 + 1 : Nat) : Int)).toNat s.size = tl ((tl s).extract x (tl s).size) := by
          rw [tl_ext]
          apply L_inj
          rw [L_ext, L_ext, L_tl, ← List.drop_one, List.drop_drop]
          congr 1
          omega
        rw [e1, e2]
      · rw [if_neg h58, decide_eq_false (fun h => h58 h.2), if_neg (by decide)]; rfl
theorem firsts (c : UInt8) : ((c.toNat : Int) = 45 ∨ dgP c.toNat = true → (c.toNat : Int) ≠ 34) ∧ (leP c.toNat = true ∨ (c.toNat : Int) = 42 → tokP c.toNat = true ∧ (c.toNat : Int) ≠ 34) := by
  have h := allU (fun c : UInt8 => (!(decide ((c.toNat : Int) = 45) || dgP c.toNat) || !decide ((c.toNat : Int) = 34)) && (!(leP c.toNat || decide ((c.toNat : Int) = 42)) || (tokP c.toNat && !decide ((c.toNat : Int) = 34)))) (by decide +kernel) c
  simp only [Bool.and_eq_true, Bool.or_eq_true, Bool.not_eq_true', Bool.or_eq_false_iff, decide_eq_false_iff_not] at h
  refine ⟨fun k => ?_, fun k => ?_⟩
  · rcases h.1 with ⟨a, b⟩ | a
    · rcases k with k | k
      · exact absurd k a
      · rw [k] at b; cases b
    · exact a
  · rcases h.2 with ⟨a, b⟩ | a
    · rcases k with k | k
      · rw [k] at a; cases a
      · exact absurd k b
    · exact a
theorem value_f (s : ByteArray) (hs : s.size ≤ 100000) (k : Nat) (hk : 2 * s.size + 100 < k) : glacisref05_value.f k s = some (refV (rdValue s)) := by
  unfold glacisref05_value.f rdValue
  by_cases h0 : 0 < s.size
  · obtain ⟨c, hc⟩ := bt_u s 0 h0
    have hne : ¬ s.toList = ([] : List UInt8) := by
      rw [L_toList]; intro e; rw [size_L, e] at h0; exact absurd h0 (by simp)
    have hc' : bt s 0 = (c.toNat : Int) := hc
    obtain ⟨f1, f2⟩ := firsts c
    rw [if_neg hne, if_pos (by omega), if_pos h0, hc', letter_u, digit_u]
    simp only [Option.bind_some]
    obtain ⟨k, rfl⟩ : ∃ k', k = k' + 3 := ⟨k - 3, by omega⟩
    have hj0 : ∀ b : Bool, b = true → (c.toNat : Int) = 45 ∨ dgP c.toNat = true → glacisref05_value.j0 (k + 3) s (leP c.toNat) b = some (refV (if (c.toNat : Int) = 45 ∨ dgP c.toNat = true then rdNumber s else if leP c.toNat = true ∨ (c.toNat : Int) = 42 then some ((4, 0, takB tokP s), drpB tokP s) else if (c.toNat : Int) = 34 then rdQuoted (tl s) else if (c.toNat : Int) = 58 then rdBytes (tl s) else if (c.toNat : Int) = 63 then rdBool (tl s) else none)) := by
      intro b hb hcn
      rw [glacisref05_value.j0, if_pos hb, number_f s hs h0 _ (by omega), if_pos hcn]
      simp only [Option.bind_some]
    by_cases c45 : (c.toNat : Int) = 45
    · rw [if_pos c45]; exact hj0 true rfl (Or.inl c45)
    rw [if_neg c45]
    by_cases cd : dgP c.toNat = true
    · exact hj0 _ cd (Or.inr cd)
    rw [if_neg (by rintro (h | h); exact c45 h; exact cd h), glacisref05_value.j0, if_neg cd, if_pos (by omega), hc']
    by_cases c34 : (c.toNat : Int) = 34
    · rw [if_pos c34, quoted_f s hs h0 _ (by omega), if_neg (fun h => (f2 h).2 c34), if_pos c34]
      simp only [Option.bind_some]
    rw [if_neg c34]
    have hj1 : ∀ b : Bool, b = true → leP c.toNat = true ∨ (c.toNat : Int) = 42 → glacisref05_value.j1 (k + 2) s b = some (refV (if leP c.toNat = true ∨ (c.toNat : Int) = 42 then some ((4, 0, takB tokP s), drpB tokP s) else if (c.toNat : Int) = 34 then rdQuoted (tl s) else if (c.toNat : Int) = 58 then rdBytes (tl s) else if (c.toNat : Int) = 63 then rdBool (tl s) else none)) := by
      intro b hb hcn
      rw [glacisref05_value.j1, if_pos hb, if_pos hcn]
      exact tok_l s hs (s.size - 1) 1 (k + 1) (by omega) (by omega) (fun j hj => by
        obtain rfl : j = 0 := by omega
        rw [hc]; exact (f2 hcn).1)
    by_cases cl : leP c.toNat = true
    · rw [if_pos cl]; exact hj1 true rfl (Or.inl cl)
    rw [if_neg cl]
    by_cases c42 : (c.toNat : Int) = 42
    · exact hj1 _ (beq_iff_eq.2 c42) (Or.inr c42)
    rw [if_neg (by rintro (h | h); exact cl h; exact c42 h), if_neg c34, glacisref05_value.j1, if_neg (by simpa using c42), if_pos (by omega), hc']
    by_cases c58 : (c.toNat : Int) = 58
    · rw [if_pos c58, if_pos c58]
      exact base_l s hs h0 (s.size - 1) 0 (k + 1) (by omega) (by omega) (fun j hj => by omega)
    rw [if_neg c58, if_neg c58]
    by_cases c63 : (c.toNat : Int) = 63
    · rw [if_pos c63, if_pos c63]
      unfold rdBool
      have hz := tl_lt s h0
      by_cases h2 : (s.size : Int) < 2
      · have e : L (tl s) = [] := by
          have : (L (tl s)).length = 0 := by rw [← size_L]; omega
          exact List.length_eq_zero_iff.1 this
        rw [if_pos h2, atF_nil e, atF_nil e, if_neg (by decide), if_neg (by decide)]; rfl
      · rw [if_neg h2, if_pos (by omega)]
        have hb : bt (tl s) 0 = bt s 1 := bt_tl s 0 (by omega)
        have a1 : ∀ n : Int, atF (tl s) n = decide (bt s 1 = n) := fun n => by
          unfold atF; rw [hb]; simp [show 0 < (tl s).size by omega]
        have er : s.extract 2 s.size = tl (tl s) := by rw [tl_is s, tl_ext]
        rw [a1, a1]
        by_cases d48 : bt s 1 = 48
        · rw [if_pos d48, if_pos (by omega), d48, er]; rfl
        rw [if_neg d48]
        by_cases d49 : bt s 1 = 49
        · rw [if_pos d49, if_pos (by omega), d49, er]; rfl
        · rw [if_neg d49, decide_eq_false d49, decide_eq_false d48, if_neg (by decide), if_neg (by decide)]; rfl
    · rw [if_neg c63, if_neg c63]; rfl
  · have he : s.toList = ([] : List UInt8) := by
      rw [L_toList]
      have : (L s).length = 0 := by rw [← size_L]; omega
      exact List.length_eq_zero_iff.1 this
    rw [if_pos he, if_neg h0]; rfl
def refK (o : Option (ByteArray × ByteArray)) : ByteArray × ByteArray × Int := match o with | some (k, t) => (k, t, 0) | none => (⟨#[]⟩, ⟨#[]⟩, 50)
theorem key_l (s : ByteArray) (hs : s.size ≤ 100000) (h0 : 0 < s.size) (hf : smP (bt s 0) = true ∨ bt s 0 = 42) : ∀ (m x k : Nat), x + 1 + m = s.size → m < k → (∀ j : Nat, j < x + 1 → keP (bt s j) = true) → glacisref05_Key.l0 k s ((x + 1 : Nat) : Int) = some (takB keP s, drpB keP s, 0)
  | 0, x, k, hm, hk, hj => by
    obtain ⟨k, rfl⟩ : ∃ k', k = k' + 1 := ⟨k - 1, by omega⟩
    have e := span_eq keP s (x + 1) (by omega) hj (fun h => by omega)
    rw [glacisref05_Key.l0, if_neg (by omega), if_neg (by omega), if_pos (by omega), if_pos (by omega)]
    unfold takB drpB
    rw [e]; rfl
  | m + 1, x, k, hm, hk, hj => by
    obtain ⟨k, rfl⟩ : ∃ k', k = k' + 1 := ⟨k - 1, by omega⟩
    obtain ⟨c, hc⟩ := bt_u s (x + 1) (by omega)
    have hb : ((((x + 1 : Nat) : Int)) == 0) = false := by rw [beq_eq_false_iff_ne]; omega
    rw [glacisref05_Key.l0, if_pos (by omega), if_pos (by omega), hc, hb, small_v c]
    simp only [Option.bind_some]
    by_cases hd : keP c.toNat = true
    · rw [if_pos hd, wrap_next _ (by omega)]
      refine key_l s hs h0 hf m (x + 1) k (by omega) (by omega) (fun j hjx => ?_)
      by_cases e : j = x + 1
      · subst e; rw [hc]; exact hd
      · exact hj j (by omega)
    · have e := span_eq keP s (x + 1) (by omega) hj (fun _ => by rw [hc]; exact Bool.eq_false_iff.mpr hd)
      rw [if_neg hd, if_neg (by omega), if_pos (by omega)]
      unfold takB drpB
      rw [e]; rfl
theorem key_f (s : ByteArray) (hs : s.size ≤ 100000) (k : Nat) (hk : s.size + 2 < k) : glacisref05_Key.f k s = some (refK (rdKey s)) := by
  unfold glacisref05_Key.f rdKey
  obtain ⟨k, rfl⟩ : ∃ k', k = k' + 1 := ⟨k - 1, by omega⟩
  rw [glacisref05_Key.l0]
  by_cases h0 : 0 < s.size
  · obtain ⟨c, hc⟩ := bt_u s 0 h0
    have hc' : bt s 0 = (c.toNat : Int) := hc
    rw [if_pos (by omega), if_pos (by omega), hc', show ((0 : Int) == 0) = true from rfl, small_u c]
    simp only [Option.bind_some]
    by_cases hf : smP c.toNat = true ∨ (c.toNat : Int) = 42
    · have e : (smP c.toNat || decide ((c.toNat : Int) = 42)) = true := by
        rcases hf with h | h
        · rw [h]; rfl
        · rw [decide_eq_true h, Bool.or_true]
      rw [if_pos e, if_pos ⟨h0, hf⟩]
      rw [show wrap64 ((0 : Int) + 1) = ((0 + 1 : Nat) : Int) from wrap_id _ (by omega)]
      have := key_l s hs h0 (by rw [hc']; exact hf) (s.size - 1) 0 k (by omega) (by omega) (fun j hj => by
        obtain rfl : j = 0 := by omega
        rw [hc]; exact (key_first c hf).1)
      exact this
    · have e : (smP c.toNat || decide ((c.toNat : Int) = 42)) = false := by
        rw [Bool.or_eq_false_iff]
        exact ⟨Bool.eq_false_iff.mpr (fun h => hf (Or.inl h)), decide_eq_false (fun h => hf (Or.inr h))⟩
      rw [e, if_neg (by decide), if_pos trivial, if_neg (fun h => hf h.2)]; rfl
  · rw [if_neg (by omega), if_pos rfl, if_neg (fun h => h0 h.1)]; rfl
theorem L_zero {s : ByteArray} (h : ¬ 0 < s.size) : L s = [] := by
  have : (L s).length = 0 := by rw [← size_L]; omega
  exact List.length_eq_zero_iff.1 this
theorem blank_nil (k : Nat) (s : ByteArray) (h0 : ¬ 0 < s.size) : glacisref05_Blank.l0 (k + 1) s = some (drpB spP s) := by
  rw [glacisref05_Blank.l0, if_neg (by omega)]
  congr 1
  apply L_inj
  rw [L_drp, L_zero h0]; rfl
theorem blank_stay (k : Nat) (s : ByteArray) (h0 : 0 < s.size) (h : bt s 0 ≠ 32) : glacisref05_Blank.l0 (k + 1) s = some (drpB spP s) := by
  obtain ⟨c, r, e⟩ := cons_of s h0
  rw [glacisref05_Blank.l0, if_pos (by omega), if_pos (by omega), if_neg h]
  congr 1
  apply L_inj
  rw [bt0 e] at h
  rw [L_drp, e, List.dropWhile_cons, if_neg (by unfold spP; rw [beq_iff_eq]; exact h)]
theorem blank_go (k : Nat) (s : ByteArray) (h0 : 0 < s.size) (h : bt s 0 = 32) : glacisref05_Blank.l0 (k + 1) s = glacisref05_Blank.l0 k (tl s) ∧ drpB spP s = drpB spP (tl s) := by
  obtain ⟨c, r, e⟩ := cons_of s h0
  refine ⟨by rw [glacisref05_Blank.l0, if_pos (by omega), if_pos (by omega), if_pos h, if_pos (by omega)]; rfl, ?_⟩
  apply L_inj
  rw [bt0 e] at h
  rw [L_drp, e, List.dropWhile_cons, if_pos (by unfold spP; exact beq_iff_eq.2 h), L_drp, L_tl, e]; rfl
theorem blank_l : ∀ (d : Nat) (s : ByteArray) (k : Nat), s.size ≤ d → d < k → glacisref05_Blank.l0 k s = some (drpB spP s)
  | 0, s, k, hd, hk => by
    obtain ⟨k, rfl⟩ : ∃ k', k = k' + 1 := ⟨k - 1, by omega⟩
    exact blank_nil k s (by omega)
  | d + 1, s, k, hd, hk => by
    obtain ⟨k, rfl⟩ : ∃ k', k = k' + 1 := ⟨k - 1, by omega⟩
    by_cases h0 : 0 < s.size
    · by_cases h : bt s 0 = 32
      · obtain ⟨h1, h2⟩ := blank_go k s h0 h
        have z := tl_lt s h0
        rw [h1, h2]
        exact blank_l d (tl s) k (by omega) (by omega)
      · exact blank_stay k s h0 h
    · exact blank_nil k s h0
theorem blank_f (s : ByteArray) (hs : s.size ≤ 100000) (k : Nat) (hk : s.size < k) : glacisref05_Blank.f k s = some (drpB spP s) := by
  unfold glacisref05_Blank.f
  exact blank_l s.size s k (Nat.le_refl _) hk
end Go.Proofs.YtbbaokjkmcfceaaGreatDoor.Pl
/- Chapter 5: the document's own reader: parameters, items, fields. -/
namespace Go.Proofs.YtbbaokjkmcfceaaGreatDoor.Pl
open Go.RowKit Go.Proofs.YtbbaokjkmcfceaaGreatDoor.Q Go.Proofs.YtbbaokjkmcfceaaGreatDoor.Sf Go.Proofs.YtbbaokjkmcfceaaGreatDoorW.PrintWords Go.Proofs.YtbbaokjkmcfceaaGreatDoorW.PrintLast
set_option linter.unusedVariables false
set_option linter.unusedSimpArgs false
def wMap (key : ByteArray) (p : S43) (l : List S43) : List S43 := l.map fun q => if q.f0 = key then p else q
def wAny (key : ByteArray) (l : List S43) : Bool := l.any fun q => decide (q.f0 = key)
theorem toList_inj {a b : ByteArray} : a.toList = b.toList ↔ a = b := ⟨fun h => L_inj (by rw [← L_toList, ← L_toList, h]), fun h => by rw [h]⟩
theorem s38_eta (q : S43) : (⟨q.f0, q.f1, q.f2, q.f3⟩ : S43) = q := rfl
theorem with_l (l : List S43) (hl : l.length ≤ 100000) (p : S43) : ∀ (m j k : Nat), j + m = l.length → m < k →
    glacisref05_With.l0 k l (wMap p.f0 p (l.take j)) (wAny p.f0 (l.take j)) (j : Int) p.f0 p.f1 p.f2 p.f3 = some (if wAny p.f0 l = true then wMap p.f0 p l else wMap p.f0 p l ++ [p])
  | 0, j, k, hm, hk => by
    obtain ⟨k, rfl⟩ : ∃ k', k = k' + 1 := ⟨k - 1, by omega⟩
    have e : l.take j = l := List.take_of_length_le (by omega)
    rw [glacisref05_With.l0, if_neg (by omega), e]
    by_cases h : wAny p.f0 l = true
    · rw [if_pos h, if_pos h]
    · rw [if_neg h, if_neg h, if_pos (by unfold wMap; rw [List.length_map]; omega), s38_eta]
  | m + 1, j, k, hm, hk => by
    obtain ⟨k, rfl⟩ : ∃ k', k = k' + 1 := ⟨k - 1, by omega⟩
    have hj : j < l.length := by omega
    have et : l.take (j + 1) = l.take j ++ [l[j]] := take_snoc l j hj
    have hlen : (wMap p.f0 p (l.take j)).length < 2932031007402 := by unfold wMap; rw [List.length_map, List.length_take]; omega
    have ih := with_l l hl p m (j + 1) k (by omega) (by omega)
    rw [glacisref05_With.l0, if_pos (by omega), if_pos (by omega), rd_at5 l j hj, wrap_next j (by omega)]
    by_cases h : l[j].f0 = p.f0
    · rw [if_pos (toList_inj.2 h), if_pos hlen]
      have e1 : wMap p.f0 p (l.take (j + 1)) = wMap p.f0 p (l.take j) ++ [p] := by
        unfold wMap; rw [et, List.map_append]; simp [h]
      have e2 : wAny p.f0 (l.take (j + 1)) = true := by
        unfold wAny; rw [et, List.any_append]; simp [h]
      rw [e1, e2] at ih
      exact ih
    · rw [if_neg (fun e => h (toList_inj.1 e)), if_pos hlen]
      have e1 : wMap p.f0 p (l.take (j + 1)) = wMap p.f0 p (l.take j) ++ [l[j]] := by
        unfold wMap; rw [et, List.map_append]; simp [h]
      have e2 : wAny p.f0 (l.take (j + 1)) = wAny p.f0 (l.take j) := by
        unfold wAny; rw [et, List.any_append]; simp [h]
      rw [e1, e2] at ih
      exact ih
theorem with_is (l : List S43) (hd : Dist l) (p : S43) : (if wAny p.f0 l = true then wMap p.f0 p l else wMap p.f0 p l ++ [p]) = withP p.f0 l p := by
  unfold withP
  cases hf : l.findIdx? (fun q => decide (q.f0 = p.f0)) with
  | none =>
    have hn := List.findIdx?_eq_none_iff.1 hf
    have h1 : wAny p.f0 l = false := by
      unfold wAny
      rw [List.any_eq_false]
      intro q hq; have := hn q hq; simp only [decide_eq_false_iff_not] at this; simpa using this
    have h2 : wMap p.f0 p l = l := by
      unfold wMap
      conv => rhs; rw [← List.map_id l]
      refine List.map_congr_left (fun q hq => ?_)
      have := of_decide_eq_false (hn q hq)
      rw [if_neg this]; rfl
    rw [if_neg (by rw [h1]; decide), h2]
  | some i =>
    obtain ⟨hi, h1, _⟩ := List.findIdx?_eq_some_iff_getElem.1 hf
    have hk : l[i].f0 = p.f0 := of_decide_eq_true h1
    have ha : wAny p.f0 l = true := by
      unfold wAny
      rw [List.any_eq_true]
      exact ⟨l[i], List.getElem_mem hi, by simpa using hk⟩
    rw [if_pos ha]
    simp only []
    unfold wMap
    apply List.ext_getElem
    · simp
    · intro j h1 h2
      rw [List.length_map] at h1
      rw [List.getElem_map, List.getElem_set]
      by_cases e : i = j
      · subst e; rw [if_pos hk, if_pos rfl]
      · rw [if_neg e, if_neg]
        intro hq
        unfold Dist at hd
        have q1 : (l.map (·.f0))[j]'(by simp; omega) = (l.map (·.f0))[i]'(by simp; omega) := by simp [hq, hk]
        rcases Nat.lt_or_gt_of_ne e with c | c
        · exact List.pairwise_iff_getElem.1 hd i j (by simp; omega) (by simp; omega) c q1.symm
        · exact List.pairwise_iff_getElem.1 hd j i (by simp; omega) (by simp; omega) c q1
theorem with_f (l : List S43) (hl : l.length ≤ 100000) (hd : Dist l) (key : ByteArray) (n i : Int) (t : ByteArray) (k : Nat) (hk : l.length < k) : glacisref05_With.f k l key n i t = some (withP key l ⟨key, n, i, t⟩) := by
  unfold glacisref05_With.f
  have := with_l l hl ⟨key, n, i, t⟩ l.length 0 k (by omega) hk
  have e := with_is l hd ⟨key, n, i, t⟩
  simp only [] at this e
  rw [← e]
  exact this
def refP (o : Option (List S43 × ByteArray)) : List S43 × ByteArray × Int := match o with | some (l, t) => (l, t, 0) | none => ([], ⟨#[]⟩, 50)
theorem size_atF {s : ByteArray} {c : Int} (h : atF s c = true) : 0 < s.size := (of_decide_eq_true h).1
theorem params_l : ∀ (d : Nat) (s : ByteArray) (l : List S43) (k : Nat), s.size < d → s.size ≤ 20000 → l.length + s.size ≤ 20000 → Dist l → 3 * s.size + 60000 < k → glacisref05_Params.l0 k s l = some (refP (pF d s l))
  | 0, s, l, k, hd, hs, hl, hD, hk => by omega
  | d + 1, s, l, k, hd, hs, hl, hD, hk => by
    obtain ⟨k, rfl⟩ : ∃ k', k = k' + 3 := ⟨k - 3, by omega⟩
    have hj : glacisref05_Params.l0 (k + 3) s l = glacisref05_Params.j1 (k + 2) s l (atF s 59) := by
      rw [glacisref05_Params.l0]
      unfold atF
      by_cases h0 : 0 < s.size
      · rw [if_pos (by omega), if_pos (by omega)]
        by_cases h59 : bt s 0 = 59
        · rw [decide_eq_true ⟨h0, h59⟩, beq_iff_eq.2 h59]
        · rw [decide_eq_false (fun h => h59 h.2), beq_eq_false_iff_ne.2 h59]
      · rw [if_neg (by omega), decide_eq_false (fun h => h0 h.1)]
    rw [hj, glacisref05_Params.j1, pF]
    by_cases h59 : atF s 59 = true
    · have h0 := size_atF h59
      have z0 := tl_lt s h0
      rw [if_pos h59, if_pos h59, if_pos (by omega), ← tl_is, blank_f (tl s) (by omega) _ (by omega)]
      simp only [Option.bind_some]
      have z1 := drp_size spP (tl s)
      rw [key_f _ (by omega) _ (by omega)]
      simp only [Option.bind_some]
      cases hK : rdKey (drpB spP (tl s)) with
      | none =>
        rw [if_neg (show ¬ (refK none).2.2 = 0 by decide)]; rfl
      | some kr =>
        obtain ⟨key, t⟩ := kr
        have z2 := key_rest hK
        rw [if_pos (show (refK (some (key, t))).2.2 = 0 from rfl)]
        have hj2 : (if (t.size : Int) > 0 then (if 0 < (t.size : Int) then (glacisref05_Params.j2 (k + 1) t l key ((bt t 0) == 61) (⟨#[]⟩ : ByteArray) 6 1 (⟨#[]⟩ : ByteArray)) else none) else (glacisref05_Params.j2 (k + 1) t l key false (⟨#[]⟩ : ByteArray) 6 1 (⟨#[]⟩ : ByteArray))) = glacisref05_Params.j2 (k + 1) t l key (atF t 61) ⟨#[]⟩ 6 1 ⟨#[]⟩ := by
          unfold atF
          by_cases h0 : 0 < t.size
          · rw [if_pos (by omega), if_pos (by omega)]
            by_cases h61 : bt t 0 = 61
            · rw [decide_eq_true ⟨h0, h61⟩, beq_iff_eq.2 h61]
            · rw [decide_eq_false (fun h => h61 h.2), beq_eq_false_iff_ne.2 h61]
          · rw [if_neg (by omega), decide_eq_false (fun h => h0 h.1)]
        refine Eq.trans hj2 ?_
        show _ = some (refP (if atF t 61 = true then (rdValue (tl t)).bind fun vr => pF d vr.2 (withP key l ⟨key, vr.1.1, vr.1.2.1, vr.1.2.2⟩) else pF d t (withP key l ⟨key, 6, 1, ⟨#[]⟩⟩)))
        rw [glacisref05_Params.j2]
        by_cases h61 : atF t 61 = true
        · have h1 := size_atF h61
          have z3 := tl_lt t h1
          rw [if_pos h61, if_pos h61, if_pos (by omega), ← tl_is, value_f (tl t) (by omega) _ (by omega)]
          simp only [Option.bind_some]
          cases hV : rdValue (tl t) with
          | none => rw [if_neg (show ¬ (refV none).2.2.2.2.2 = true by decide)]; rfl
          | some vr =>
            obtain ⟨⟨n, i, tx⟩, t3⟩ := vr
            have z4 := value_rest hV
            rw [if_pos (show (refV (some ((n, i, tx), t3))).2.2.2.2.2 = true from rfl)]
            show (Option.bind (glacisref05_With.f k l key n i tx) fun t208 => glacisref05_Params.l0 k t3 t208) = some (refP (pF d t3 (withP key l ⟨key, n, i, tx⟩)))
            rw [with_f l (by omega) hD key n i tx _ (by omega)]
            simp only [Option.bind_some]
            have zl := withP_len key l ⟨key, n, i, tx⟩
            exact params_l d t3 _ k (by omega) (by omega) (by omega) (dist_with _ _ _ rfl hD) (by omega)
        · rw [if_neg h61, if_neg h61, with_f l (by omega) hD key 6 1 ⟨#[]⟩ _ (by omega)]
          simp only [Option.bind_some]
          have zl := withP_len key l ⟨key, 6, 1, ⟨#[]⟩⟩
          exact params_l d t _ k (by omega) (by omega) (by omega) (dist_with _ _ _ rfl hD) (by omega)
    · rw [if_neg h59, if_neg h59]; rfl
theorem params_f (s : ByteArray) (hs : s.size ≤ 20000) (k : Nat) (hk : 3 * s.size + 60000 < k) : glacisref05_Params.f k s = some (refP (rdParams s)) := by
  unfold glacisref05_Params.f rdParams
  exact params_l (s.size + 1) s [] k (by omega) hs (by simpa using hs) (by unfold Dist; simp) hk
def refN (o : Option ((Int × Int × ByteArray) × List S43 × ByteArray)) : Int × Int × ByteArray × List S43 × ByteArray × Int := match o with | some (v, l, t) => (v.1, v.2.1, v.2.2, l, t, 0) | none => (0, 0, ⟨#[]⟩, [], ⟨#[]⟩, 50)
theorem next_f (s : ByteArray) (hs : s.size ≤ 20000) (k : Nat) (hk : 3 * s.size + 60000 < k) : glacisref05_Next.f k s = some (refN (rdNext s)) := by
  unfold glacisref05_Next.f rdNext
  rw [value_f s (by omega) k (by omega)]
  simp only [Option.bind_some]
  cases hV : rdValue s with
  | none => rw [if_neg (show ¬ (refV none).2.2.2.2.2 = true by decide)]; rfl
  | some vr =>
    obtain ⟨⟨n, i, tx⟩, t⟩ := vr
    have z := value_rest hV
    rw [if_pos (show (refV (some ((n, i, tx), t))).2.2.2.2.2 = true from rfl)]
    show (Option.bind (glacisref05_Params.f k t) fun bt222 => if bt222.2.2 = 0 then some (n, i, tx, bt222.1, bt222.2.1, 0) else some (0, 0, (⟨#[]⟩ : ByteArray), ([] : List (S43)), (⟨#[]⟩ : ByteArray), bt222.2.2)) = some (refN ((rdParams t).bind fun p => some ((n, i, tx), p.1, p.2)))
    rw [params_f t (by omega) k (by omega)]
    simp only [Option.bind_some]
    cases hP : rdParams t with
    | none => rw [if_neg (show ¬ (refP none).2.2 = 0 by decide)]; rfl
    | some lr =>
      obtain ⟨l, r⟩ := lr
      rw [if_pos (show (refP (some (l, r))).2.2 = 0 from rfl)]; rfl
end Go.Proofs.YtbbaokjkmcfceaaGreatDoor.Pl
/- What any text begins with, and what stands behind, is what the document says: over the printed functions. -/
namespace Go.Proofs.YtbbaokjkmcfceaaGreatDoor.Pure
open Go.RowKit Go.Proofs.YtbbaokjkmcfceaaGreatDoor.Q Go.Proofs.YtbbaokjkmcfceaaGreatDoor.Sf Go.Proofs.YtbbaokjkmcfceaaGreatDoor.Pl Go.Proofs.YtbbaokjkmcfceaaGreatDoorW.PrintWords Go.Proofs.YtbbaokjkmcfceaaGreatDoorW.PrintLast
set_option linter.unusedVariables false
theorem next_sure (s : ByteArray) (h : s.size ≤ 20000) : sfitem_Next.f s = some (refN (rdNext s)) := by
  unfold sfitem_Next.f
  rw [if_pos (by omega)]
  cases rdNext s <;> rfl
theorem params_sure (s : ByteArray) (h : s.size ≤ 20000) : sfitem_Params.f s = some (refP (rdParams s)) := by
  unfold sfitem_Params.f
  rw [if_pos (by omega)]
  cases rdParams s <;> rfl
theorem key_sure (s : ByteArray) (h : s.size ≤ 20000) : sfitem_Key.f s = some (refK (rdKey s)) := by
  unfold sfitem_Key.f
  rw [if_pos (by omega)]
  unfold keyF
  cases rdKey s <;> rfl
theorem params_few (l : List S43) (hl : l.length ≤ 100000) (k : Nat) (hk : l.length < k) : glacisref05_SameParams.f k l l = some true := by
  unfold glacisref05_SameParams.f
  rw [if_pos rfl]
  exact same_loop l hl l.length 0 k (by omega) hk
theorem next_count (s : ByteArray) : (refN (rdNext s)).2.2.2.1.length ≤ s.size := by
  cases h : rdNext s with
  | none => exact Nat.zero_le _
  | some x =>
    obtain ⟨v, l, t⟩ := x
    obtain ⟨u, a1, a2, a3⟩ := next_inv h
    have hc := it_count a2
    show l.length ≤ s.size
    rw [size_L, a1, List.length_append]; omega
theorem params_count (s : ByteArray) : (refP (rdParams s)).1.length ≤ s.size := by
  cases h : rdParams s with
  | none => exact Nat.zero_le _
  | some x =>
    obtain ⟨l, t⟩ := x
    obtain ⟨u, a1, a2, a3⟩ := pt_inv _ _ _ _ _ h
    have hc := pt_count a2
    show l.length ≤ s.size
    rw [size_L, a1, List.length_append]
    simp only [List.length_nil] at hc
    omega
theorem SfitemBegins : ∀ (a0 : ByteArray), a0.size ≤ 140737488351232 → ∃ k, glacislaw05_SfitemBegins.f k a0 = some true := by
  intro s _
  refine ⟨200000, ?_⟩
  unfold glacislaw05_SfitemBegins.f
  rw [awake05]
  simp only [Option.bind_some]
  by_cases hs : (s.size : Int) > 4000
  · rw [if_pos hs]
  have h1 := next_count s
  have h2 := params_count s
  rw [if_neg hs, next_sure s (by omega), next_f s (by omega) 200000 (by omega), params_sure s (by omega), params_f s (by omega) 200000 (by omega), key_sure s (by omega), key_f s (by omega) 200000 (by omega)]
  generalize refN (rdNext s) = a at *
  generalize refP (rdParams s) = b at *
  generalize refK (rdKey s) = c at *
  simp only [Option.bind_some]
  rw [same_refl a.2.2.2.1 (by omega) _ _ _ 200000 (by omega)]
  simp only [Option.bind_some]
  rw [params_few b.1 (by omega) 200000 (by omega)]
  simp only [Option.bind_some]
  simp
end Go.Proofs.YtbbaokjkmcfceaaGreatDoor.Pure
/- The law glacis/glacislaw05.SfitemBegins, for every input: its call returns true and leaves its arguments as they were; the row, and its card. Its conditions: the row's own. -/
namespace Go.Proofs.YtbbaokjkmcfceaaGreatDoor.sfitemBegins
open Go.ChangeShapes Go.WideShapes Go.ChangeAt Go.RowKit
open Go.Proofs.YtbbaokjkmcfceaaGreatDoor Go.Proofs.YtbbaokjkmcfceaaGreatDoorW.PrintWords
open Go.ChangeMaps (open_string shut_string)
open Go.Proofs.YtbbaokjkmcfceaaGreatDoor.rc
set_option linter.unusedVariables false
theorem walk (W : World) (hT : Aside0 (Q.TabW W)) (a0 : ByteArray) (h0 : a0.size ≤ 140737488351232) :
    Calls Tryz.prog 5 #[.string a0] W fun e w' => e = .returned (.bool true) ∧ Below W.heap.size W w' := by
  obtain ⟨k, h⟩ := YtbbaokjkmcfceaaGreatDoor.Pure.SfitemBegins a0 h0
  refine (YtbbaokjkmcfceaaGreatDoor.Q.glacislaw05_SfitemBegins.calls k a0 true W hT h).mono ?_
  rintro e w' ⟨rfl, hd⟩
  first | exact ⟨rfl, hd⟩ | exact ⟨rfl, hd.below⟩
set_option maxRecDepth 100000 in
theorem contract (H : Type) (enc : TypeId × Value → H) (W : World) (hT : Aside0 (Q.TabW W)) (base : Nat) (args : Array Value) (ds gs : List (DataW H)) (before : List MemPlace)
    (hval : ∀ (j : Nat) t v, Tryz.f5.params[j]? = some t → args[j]? = some v → Value.okWide Tryz.prog W .any base t v)
    (hW : DataW.Whole enc Tryz.prog Tryz.f5.params.toList Rows.sfitemBeginsSpec.vars false W args.toList ds gs before)
    (hsz : (DataW.weightsEach Tryz.prog (Tryz.f5.params.toList ++ Rows.sfitemBeginsSpec.plain.varTypes Tryz.prog) (ds ++ gs)).all (· ≤ reachBytes) = true) :
    Calls Tryz.prog 5 args W fun e W' => ∃ v, e = .returned v ∧ Rows.sfitemBeginsSpec.post enc Tryz.prog Tryz.f5 false true false false W args v W' := by
  have hW' := hW
  obtain ⟨p, q, hA0, hV, rfl, hfz, hnd⟩ := hW
  have hA : DataW.TrodAll enc Tryz.prog W 0 (fun _ => true) true Tryz.f5.params.toList args.toList ds p := hA0
  rw [Tryz.params5] at hA hval hsz
  obtain ⟨v0, vs0, d0, ds0, p0, q0, hargs, rfl, rfl, h0, r0⟩ := trodAll_cons hA
  obtain ⟨rfl, rfl, rfl⟩ := trodAll_nil r0
  obtain rfl : args = #[v0] := by cases args; simp_all
  obtain ⟨rfl, rfl⟩ := trodVars_none hV
  obtain ⟨a0, rfl, rfl, rfl, y0⟩ := open_string Tryz.underlying9 (hval 0 9 v0 rfl rfl) h0
  have w0 : a0.size ≤ 140737488351232 := by
    have z := sized_string hsz (j := 0) (t := 9) rfl rfl
    rw [Array.length_toList] at z
    exact z
  clear hA0
  refine (walk W hT a0 w0).mono fun e W' ⟨he, bel⟩ => ?_
  subst he
  exact ⟨_, rfl, _, _, _, [], _, [], hW', trodAll_mk1 (shut_bool Tryz.underlying4 _), (trodAll_cons_mk (shut_string Tryz.underlying9 y0) trodAll_mk0), rfl, bel.frame _, fun h => by cases h⟩
theorem laid_met (os : Os) : laidMet Tryz.prog Rows.sfitemBeginsRow.laid ((laidWorld os).forCall (fun _ _ => 0) ⟨#[], #[.string ByteArray.empty], []⟩).memory :=
  laidMet_of_run' 8 (by kernel_rfl) (by kernel_rfl)
theorem reads (os : Os) {H : Type} (enc : TypeId × Value → H) : ∃ places, DataW.whole enc Tryz.prog ((laidWorld os).forCall (fun _ _ => 0) ⟨#[], #[.string ByteArray.empty], []⟩).memory Tryz.f5.params.toList Rows.sfitemBeginsSpec.vars false (#[.string ByteArray.empty] : Array Value).toList 8 = some ([.lit (.string [])], [], places) :=
  ⟨[], by kernel_rfl⟩
set_option maxRecDepth 100000 in
theorem lifted (os : Os) (started : os.Started) (H : Type) (enc : TypeId × Value → H) (F : Stop.Interp) :
    ReturnsInHanded {} Tryz.checked os 5 .any ((OpenSpec.ofChange Rows.sfitemBeginsSpec).preRow enc Tryz.prog Tryz.f5 Rows.sfitemBeginsRow.domain false Rows.sfitemBeginsRow.laid) (((OpenSpec.ofChange Rows.sfitemBeginsSpec).at F).post enc Tryz.prog Tryz.f5 false true false false) := by
  obtain ⟨places, hx⟩ := reads os enc
  refine returnsInHanded_of_row (C := Tryz.checked) (s := (OpenSpec.ofChange Rows.sfitemBeginsSpec)) own started (by kernel_rfl) Tryz.func5
    (witness_row_at (enc := enc) (C := Tryz.checked) false (laidWorld os) #[.string ByteArray.empty] rfl (by kernel_rfl) (by kernel_rfl) (by kernel_rfl)
      (OpenSpec.preRow_of_cond 8 hx (by kernel_rfl) (fun k hk => by cases hk) (by kernel_rfl) (laid_met os))) ?_
  intro W base args ds gs before hval hW _ hcond hsz hL _ _
  have hL1 := laidMet.tail hL
  have hL2 := laidMet.tail hL1
  have hT : Lib.TabIs Tryz.prog W "internal/strconv.uint64pow10" .u64 Lib.pow10Tab := Lib.tabIs_of_head (g := 3) (by kernel_rfl) (by kernel_rfl) Tryz.underlying110 Tryz.underlying98 (by kernel_rfl) (by kernel_rfl) hL2
  exact contract H enc W (Aside0.mk hT) base args ds gs before hval hW hsz
theorem said : Rows.SfitemBeginsSaid :=
  OpenClaim.holds_of_cond 5 Tryz.f5 rfl rfl rfl rfl rfl rfl rfl ⟨rfl, rfl, rfl, rfl, rfl⟩ rfl rfl rfl rfl rfl (by kernel_rfl) Tryz.func5 (by kernel_rfl)
    (of_decide_eq_true (by kernel_rfl)) (by unfold Func.isWrapper; first | (rw [if_pos (by decide +kernel)]; kernel_rfl) | (rw [if_neg (by decide +kernel)]; exact ⟨rfl, rfl⟩))
    (fun os started H enc _ F => by rw [OpenClaim.pre_eq_preRow]; exact lifted os started H enc F)
theorem plain (f : FuncId) (fn : Func) (hf : Tryz.pinned.checked.prog.funcNamed "glacis/glacislaw05.SfitemBegins" = some f) (hfn : Tryz.pinned.checked.prog.funcs[f]? = some fn) :
    true = Tryz.pinned.checked.prog.looks [] ∧ ∀ (j : Nat) t, fn.params[j]? = some t → Tryz.pinned.checked.prog.wantsStandIn t = false := by
  obtain rfl : f = 5 := Option.some.inj ((show Tryz.prog.funcNamed "glacis/glacislaw05.SfitemBegins" = some 5 by kernel_rfl).symm.trans hf) |>.symm
  obtain rfl : fn = Tryz.f5 := (Option.some.inj (Tryz.func5.symm.trans hfn)).symm
  refine ⟨by kernel_rfl, fun j t ht => ?_⟩
  rw [Tryz.params5] at ht
  have hm : t ∈ [9] := by simpa using Array.mem_of_getElem? ht
  have hall : ([9].all fun u => !Tryz.prog.wantsStandIn u) = true := by kernel_rfl
  exact (show Tryz.prog.wantsStandIn t = false by simpa using List.all_eq_true.1 hall t hm)
/-- THE CARD. -/
theorem card : Rows.SfitemBeginsCardSaid :=
  Claim7.holds_tied_plain_at .later [] _ _ _ _ said (fun _ h => by cases h) (by kernel_rfl) (fun _ h => by cases h) sfitemBegins_row_tie rfl ⟨rfl, rfl⟩ (by kernel_rfl) rfl plain (by kernel_rfl)
#print axioms card
end Go.Proofs.YtbbaokjkmcfceaaGreatDoor.sfitemBegins
