/- Chapter 5: values, parameters and items, there and back. -/
import Derived.Test.YtbbaokjkmcfceaaDoorPl05C
namespace Go.Proofs.YtbbaokjkmcfceaaDoor.Pl
open Go.RowKit Go.Proofs.YtbbaokjkmcfceaaDoor.Q Go.Proofs.YtbbaokjkmcfceaaDoor.Sf Go.Proofs.YtbbaokjkmcfceaaDoorW.PrintWords Go.Proofs.YtbbaokjkmcfceaaDoorW.PrintLast
set_option linter.unusedVariables false
set_option linter.unusedSimpArgs false
theorem B_nil : B [] = ⟨#[]⟩ := rfl
theorem eq_nil {t : ByteArray} (h : L t = []) : t = ⟨#[]⟩ := L_inj (h.trans L_nil.symm)
/-- A text that is one whole value. -/
theorem whole_of {s : ByteArray} {n i : Int} {t : List UInt8} (h : VT (L s) n i t) (hz : s.size ≤ 2199023255552) (m : Int) : sfitem_whole.f s m = some (decide (n = m)) := by
  have hn := next_read ⟨L s, [], by simp, h, PT.nil []⟩ s rfl
  unfold sfitem_whole.f sfitem_Next.f
  rw [if_pos hz, hn]
  simp only [Option.bind_some]
  rw [if_pos trivial, if_pos (by rw [L_toList, L_B])]
  by_cases e : n = m
  · rw [if_pos e, decide_eq_true e]; rfl
  · rw [if_neg e, decide_eq_false e]
theorem pt_some {u : List UInt8} {l l1 : List S38} (h : PT u l l1) : l ≠ [] → l1 ≠ [] := by
  induction h with
  | nil => exact id
  | flag b k u l l1 hb hk h ih => exact fun hl => ih (by unfold withP; split <;> simp [hl])
  | val b k w u n i t l l1 hb hk hv h ih => exact fun hl => ih (by unfold withP; split <;> simp [hl])
theorem with_nil (k : ByteArray) (p : S38) : withP k [] p = [p] := rfl
theorem pt_none {u : List UInt8} (h : PT u [] []) : u = [] := by
  cases h with
  | nil => rfl
  | flag b k u l l1 hb hk h => exact absurd rfl (pt_some h (by rw [with_nil]; simp))
  | val b k w u n i t l l1 hb hk hv h => exact absurd rfl (pt_some h (by rw [with_nil]; simp))
theorem whole_inv {s : ByteArray} {m : Int} (h : sfitem_whole.f s m = some true) : ∃ i t, VT (L s) m i t := by
  unfold sfitem_whole.f sfitem_Next.f at h
  by_cases hz : s.size ≤ 2199023255552
  · rw [if_pos hz] at h
    cases hn : rdNext s with
    | none => rw [hn] at h; simp at h
    | some x =>
      obtain ⟨v, l, t⟩ := x
      rw [hn] at h
      simp only [Option.bind_some] at h
      rw [if_pos trivial] at h
      by_cases ht : t.toList = ([] : List UInt8)
      · rw [if_pos ht] at h
        by_cases hm : v.1 = m
        · rw [if_pos hm] at h
          have hl : l = [] := by simpa using h
          obtain ⟨u, a1, ⟨a, b, rfl, hv, hp⟩, a3⟩ := next_inv hn
          rw [L_toList] at ht
          rw [ht, List.append_nil] at a1
          subst hl
          have hb : b = [] := pt_none hp
          subst hb
          rw [List.append_nil] at a1
          refine ⟨v.2.1, L v.2.2, ?_⟩
          rw [a1, ← hm]; exact hv
        · rw [if_neg hm] at h; cases h
      · rw [if_neg ht] at h; simp at h
  · rw [if_neg hz] at h; simp at h
theorem tok_inv {u : List UInt8} {i : Int} {t : List UInt8} (h : VT u 4 i t) : i = 0 ∧ t = u := by
  generalize hn : (4 : Int) = n at h
  cases h <;> first | exact ⟨rfl, rfl⟩ | (exfalso; revert hn; decide)
theorem byt_inv {u : List UInt8} {i : Int} {t : List UInt8} (h : VT u 5 i t) : i = 0 ∧ u = 58 :: (t ++ [58]) := by
  generalize hn : (5 : Int) = n at h
  cases h <;> first | exact ⟨rfl, rfl⟩ | (exfalso; revert hn; decide)
/-- What a value's text tells is the value. -/
theorem value_back (k : ByteArray) (n i : Int) (t o : ByteArray) (h : sfitem_value.f k n i t = some (o, true)) : VT (L o) n i (L t) := by
  unfold sfitem_value.f at h
  by_cases hz : t.size ≤ 2199023255540
  · rw [if_neg (by omega)] at h
    by_cases hi : i < -999999999999999 ∨ 999999999999999 < i
    · rw [if_pos hi] at h; simp at h
    rw [if_neg hi] at h
    have hi' : -999999999999999 ≤ i ∧ i ≤ 999999999999999 := by omega
    by_cases h1 : n = 1
    · rw [if_pos h1] at h
      have h := Option.some.inj h
      simp only [Prod.mk.injEq] at h
      rw [h1, ← h.1, empty_of h.2]; exact int_back i hi'
    rw [if_neg h1] at h
    by_cases h2 : n = 2
    · rw [if_pos h2] at h
      have h := Option.some.inj h
      simp only [Prod.mk.injEq] at h
      rw [h2, ← h.1, empty_of h.2]; exact dec_back i hi'
    rw [if_neg h2] at h
    by_cases h6 : n = 6
    · rw [if_pos h6] at h
      by_cases ht : (t.toList == ([] : List UInt8)) = true
      · rw [if_pos ht] at h
        have h := Option.some.inj h
        simp only [Prod.mk.injEq] at h
        rw [h6, ← h.1, show L t = [] by rw [L_toList] at ht; simpa using ht]
        rcases flag_of i hi' h.2 with rfl | rfl
        · rw [itoa_0]; exact VT.zero
        · rw [itoa_1]; exact VT.one
      · rw [if_neg ht] at h; simp at h
    rw [if_neg h6] at h
    by_cases h3 : n = 3
    · rw [if_pos h3] at h
      have h := Option.some.inj h
      by_cases hp : Plain (L t)
      · rw [text_plain t i hp] at h
        simp only [Prod.mk.injEq, beq_iff_eq] at h
        rw [h3, ← h.1, h.2, L_B]
        exact VT.quo _ _ (q_esc _ hp)
      · rw [text_bad t i hp] at h; simp at h
    rw [if_neg h3] at h
    by_cases h4 : n = 4
    · rw [if_pos h4] at h
      by_cases h0 : i = 0
      · rw [if_pos h0] at h
        obtain ⟨b, hb, h⟩ := Option.bind_eq_some_iff.1 h
        have h := Option.some.inj h
        simp only [Prod.mk.injEq] at h
        obtain ⟨rfl, rfl⟩ := h
        obtain ⟨i', t', hv⟩ := whole_inv hb
        obtain ⟨rfl, rfl⟩ := tok_inv hv
        rw [h4, h0]; exact hv
      · rw [if_neg h0] at h; simp at h
    rw [if_neg h4] at h
    by_cases h5 : n = 5
    · rw [if_pos h5] at h
      by_cases h0 : i = 0
      · rw [if_pos h0] at h
        obtain ⟨b, hb, h⟩ := Option.bind_eq_some_iff.1 h
        have h := Option.some.inj h
        simp only [Prod.mk.injEq] at h
        obtain ⟨rfl, rfl⟩ := h
        obtain ⟨i', t', hv⟩ := whole_inv hb
        have e : L (((⟨#[58]⟩ : ByteArray) ++ t) ++ (⟨#[58]⟩ : ByteArray)) = 58 :: (L t ++ [58]) := by rw [L_app, L_app]; rfl
        rw [e] at hv ⊢
        obtain ⟨rfl, hu⟩ := byt_inv hv
        have : L t = t' := by simpa using hu
        rw [this] at hv ⊢
        rw [h5, h0]; exact hv
      · rw [if_neg h0] at h; simp at h
    rw [if_neg h5] at h; simp at h
  · rw [if_pos hz] at h; cases h
theorem sgV_cases (sg : List UInt8) : sgV sg = 1 ∨ sgV sg = -1 := by unfold sgV; split <;> simp
theorem natAbs_sg (sg : List UInt8) (m : Nat) : (sgV sg * (m : Int)).natAbs = m := by rcases sgV_cases sg with e | e <;> rw [e] <;> omega
theorem sgO_len (sg : List UInt8) (h : sg = [] ∨ sg = [45]) (m : Nat) : (sgO (sgV sg * (m : Int))).length ≤ sg.length := by
  rcases h with rfl | rfl
  · have : sgO (sgV [] * (m : Int)) = [] := by unfold sgO sgV; rw [if_neg (by rw [if_pos rfl]; omega)]
    rw [this]; exact Nat.le_refl _
  · unfold sgO; split <;> simp
theorem vt_len {u : List UInt8} {n i : Int} {t : List UInt8} (h : VT u n i t) : t.length ≤ u.length := by
  cases h with
  | int => simp
  | dec => simp
  | tok => simp
  | quo q t h => have := qt_len h; simp; omega
  | byt => simp; omega
  | one => simp
  | zero => simp
/-- Every value that a text tells has a text, of at most twice the length. -/
theorem value_total (k : ByteArray) {u : List UInt8} {n i : Int} {t : List UInt8} (h : VT u n i t) (hu : u.length ≤ 2199023255540) : ∃ o, sfitem_value.f k n i (B t) = some (o, true) ∧ o.size ≤ 2 * u.length := by
  have hl := vt_len h
  have hz : ¬ ¬ (B t).size ≤ 2199023255540 := by rw [size_L, L_B]; omega
  have hwh := h
  unfold sfitem_value.f
  rw [if_neg hz]
  cases h with
  | int sg w h0 h1 h2 h3 =>
    have hb := numL_bound w h2
    have hp : 10 ^ w.length ≤ 10 ^ 15 := Nat.pow_le_pow_right (by omega) h3
    have ha := natAbs_sg sg (numL w)
    rw [if_neg (by omega), if_pos rfl]
    have eN : (B []).toList.isEmpty = true := by rw [L_toList, L_B]; rfl
    rw [eN]
    refine ⟨_, rfl, ?_⟩
    rw [size_L, itoa_L, ha, List.length_append, List.length_append]
    have e1 := sgO_len sg h0 (numL w)
    obtain ⟨m, hm⟩ : ∃ m, w.length = m + 1 := ⟨w.length - 1, by have := List.length_pos_iff.2 h1; omega⟩
    have e2 := dec_len m (numL w) (by rw [← hm]; exact hb)
    omega
  | dec sg w p h0 h1 h2 h3 h4 h5 h6 =>
    have hz := zer_len p.length h6
    have hdz : ∀ c ∈ w ++ (p ++ zerL p.length), dgU c = true := by
      intro c hc
      rcases List.mem_append.1 hc with hc | hc
      · exact h2 c hc
      · rcases List.mem_append.1 hc with hc | hc
        · exact h5 c hc
        · have : c = 48 := by
            have := List.mem_of_mem_drop hc
            simpa using this
          subst this; decide
    have hb := numL_bound _ hdz
    have hn : numL (w ++ (p ++ zerL p.length)) / 1000 = numL w := by
      have hq := numL_bound (p ++ zerL p.length) (fun c hc => hdz c (List.mem_append.2 (Or.inr hc)))
      have hle : (p ++ zerL p.length).length = 3 := by rw [List.length_append, hz]; omega
      rw [numL_app]
      rw [hle] at hq ⊢
      omega
    have hbw := numL_bound w h2
    have ha := natAbs_sg sg (numL (w ++ (p ++ zerL p.length)))
    have hp : 10 ^ (w ++ (p ++ zerL p.length)).length ≤ 10 ^ 15 := Nat.pow_le_pow_right (by omega) (by simp only [List.length_append, hz]; omega)
    rw [if_neg (by omega), if_neg (by decide), if_pos rfl]
    have eN : (B []).toList.isEmpty = true := by rw [L_toList, L_B]; rfl
    rw [eN]
    refine ⟨_, rfl, ?_⟩
    rw [size_L, dec_L, ha, hn]
    have e1 := sgO_len sg h0 (numL (w ++ (p ++ zerL p.length)))
    obtain ⟨m, hm⟩ : ∃ m, w.length = m + 1 := ⟨w.length - 1, by have := List.length_pos_iff.2 h1; omega⟩
    have e2 := dec_len m (numL w) (by rw [← hm]; exact hbw)
    have e3 := (fr_at (numL (w ++ (p ++ zerL p.length)) % 1000) (by omega)).2.2.1
    have e4 : p.length ≠ 0 := by simpa using h4
    simp only [List.length_append, List.length_cons]
    omega
  | tok c w h0 h1 =>
    rw [if_neg (by omega), if_neg (by decide), if_neg (by decide), if_neg (by decide), if_neg (by decide), if_pos rfl, if_pos rfl]
    rw [whole_of (n := 4) (i := 0) (t := c :: w) (by rw [L_B]; exact hwh) (by rw [size_L, L_B]; omega) 4]
    exact ⟨_, rfl, by rw [size_L, L_B]; omega⟩
  | quo q t h =>
    rw [if_neg (by omega), if_neg (by decide), if_neg (by decide), if_neg (by decide), if_pos rfl]
    rw [text_plain (B t) 0 (by rw [L_B]; exact q_plain h)]
    refine ⟨_, rfl, ?_⟩
    have := qt_len h
    have e := esc_len t
    rw [size_L, L_B, L_B]
    simp only [List.length_cons, List.length_append, List.length_nil]
    omega
  | byt h =>
    rw [if_neg (by omega), if_neg (by decide), if_neg (by decide), if_neg (by decide), if_neg (by decide), if_neg (by decide), if_pos rfl, if_pos rfl]
    have e : L (((⟨#[58]⟩ : ByteArray) ++ B t) ++ (⟨#[58]⟩ : ByteArray)) = 58 :: (t ++ [58]) := by rw [L_app, L_app, L_B]; rfl
    rw [whole_of (n := 5) (i := 0) (t := t) (by rw [e]; exact hwh) (by rw [size_L, e]; omega) 5]
    exact ⟨_, rfl, by rw [size_L, e]; omega⟩
  | one =>
    rw [if_neg (by omega), if_neg (by decide), if_neg (by decide), if_pos rfl, if_pos (by decide +kernel), itoa_1]
    have eb : (Go.bits .andNot .i64 1 1 == 0) = true := by decide +kernel
    rw [eb]
    exact ⟨_, rfl, by rw [size_L, L_app]; decide⟩
  | zero =>
    rw [if_neg (by omega), if_neg (by decide), if_neg (by decide), if_pos rfl, if_pos (by decide +kernel), itoa_0]
    have eb : (Go.bits .andNot .i64 0 1 == 0) = true := by decide +kernel
    rw [eb]
    exact ⟨_, rfl, by rw [size_L, L_app]; decide⟩
end Go.Proofs.YtbbaokjkmcfceaaDoor.Pl
