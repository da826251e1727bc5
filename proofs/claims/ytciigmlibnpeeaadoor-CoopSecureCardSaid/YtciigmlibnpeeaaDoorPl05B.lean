/- Chapter 5: what the reader has read is such a text; parameters; whole items. -/
import Derived.Test.YtciigmlibnpeeaaDoorPl05A
namespace Go.Proofs.YtciigmlibnpeeaaDoor.Pl
open Go.RowKit Go.Proofs.YtciigmlibnpeeaaDoor.Q Go.Proofs.YtciigmlibnpeeaaDoor.Sf Go.Proofs.YtciigmlibnpeeaaDoorW.PrintWords Go.Proofs.YtciigmlibnpeeaaDoorW.PrintLast
set_option linter.unusedVariables false
set_option linter.unusedSimpArgs false
theorem u_eq {c d : UInt8} (h : (c.toNat : Int) = (d.toNat : Int)) : c = d := UInt8.toNat_inj.1 (by omega)
theorem cons_of (s : ByteArray) (h : 0 < s.size) : ∃ c r, L s = c :: r := by
  cases e : L s with
  | nil => exact absurd h (size_nil e)
  | cons c r => exact ⟨c, r, rfl⟩
theorem qt_inv : ∀ (d : Nat) (s : ByteArray) (xs : List Int) (o t : ByteArray), qF d s xs = some (o, t) → ∃ q m, L s = q ++ L t ∧ QT q m ∧ L o = L (strOfNums xs) ++ m
  | 0, s, xs, o, t, h => by rw [qF] at h; cases h
  | d + 1, s, xs, o, t, h => by
    rw [qF] at h
    by_cases h0 : 0 < s.size
    · rw [if_pos h0] at h
      obtain ⟨c, r, e⟩ := cons_of s h0
      have et : L (tl s) = r := by rw [L_tl, e]; rfl
      rw [bt0 e] at h
      by_cases c34 : (c.toNat : Int) = 34
      · rw [if_pos c34] at h
        obtain ⟨rfl, rfl⟩ := Prod.mk.inj (Option.some.inj h)
        have : c = 34 := u_eq c34
        subst this
        exact ⟨[34], [], by rw [et, e]; rfl, QT.stop, by simp⟩
      · rw [if_neg c34] at h
        by_cases bad : (c.toNat : Int) < 32 ∨ 126 < (c.toNat : Int) ∨ ((c.toNat : Int) = 92 ∧ ¬ (0 < (tl s).size ∧ wiP (bt (tl s) 0) ⟨#[34, 92]⟩ = true))
        · rw [if_pos bad] at h; cases h
        · rw [if_neg bad] at h
          by_cases c92 : (c.toNat : Int) = 92
          · rw [if_pos c92] at h
            have ok : 0 < (tl s).size ∧ wiP (bt (tl s) 0) ⟨#[34, 92]⟩ = true := Classical.byContradiction fun k => bad (Or.inr (Or.inr ⟨c92, k⟩))
            obtain ⟨c2, r2, e2⟩ := cons_of (tl s) ok.1
            have ok2 := ok.2
            rw [bt0 e2, wiQ] at ok2
            rw [bt0 e2] at h
            obtain ⟨q, m, a1, a2, a3⟩ := qt_inv d _ _ _ _ h
            have e3 : L (tl (tl s)) = r2 := by rw [L_tl, e2]; rfl
            have : c = 92 := u_eq c92
            subst this
            refine ⟨92 :: c2 :: q, c2 :: m, ?_, QT.esc c2 q m (of_decide_eq_true ok2) a2, ?_⟩
            · rw [e3] at a1; rw [e, ← et, e2, a1]; rfl
            · rw [a3, num_app xs c2 _ rfl]; simp
          · rw [if_neg c92] at h
            obtain ⟨q, m, a1, a2, a3⟩ := qt_inv d _ _ _ _ h
            refine ⟨c :: q, c :: m, ?_, QT.plain c q m (by omega) (by omega) (by omega) (by omega) a2, ?_⟩
            · rw [et] at a1; rw [e, a1]; rfl
            · rw [a3, num_app xs c _ rfl]; simp
    · rw [if_neg h0] at h; cases h
theorem quoted_inv {s t : ByteArray} {v : Int × Int × ByteArray} (h : rdQuoted s = some (v, t)) : ∃ q, L s = q ++ L t ∧ QT q (L v.2.2) ∧ v.1 = 3 ∧ v.2.1 = 0 := by
  unfold rdQuoted at h
  obtain ⟨⟨o, t'⟩, hq, hm⟩ := Option.map_eq_some_iff.1 h
  unfold mkQ at hm
  obtain ⟨rfl, rfl⟩ := Prod.mk.inj hm
  obtain ⟨q, m, a1, a2, a3⟩ := qt_inv _ _ _ _ _ hq
  refine ⟨q, a1, ?_, rfl, rfl⟩
  have : L (strOfNums []) = [] := rfl
  rw [this] at a3
  simpa [a3] using a2
theorem number_inv {s t : ByteArray} {v : Int × Int × ByteArray} (h : rdNumber s = some (v, t)) : ∃ u, L s = u ++ L t ∧ VT u v.1 v.2.1 (L v.2.2) := by
  obtain ⟨sg, h0, hs, hg⟩ : ∃ sg : List UInt8, (sg = [] ∨ sg = [45]) ∧ L s = sg ++ L (atR s 45) ∧ (if atF s 45 = true then (-1 : Int) else 1) = sgV sg := by
    unfold atR
    cases e : atF s 45 with
    | false => exact ⟨[], Or.inl rfl, rfl, rfl⟩
    | true =>
      obtain ⟨c, r, e1, e2⟩ := atF_ex e
      have : c = 45 := u_eq e2
      subst this
      exact ⟨[45], Or.inr rfl, by rw [if_pos rfl, L_tl, e1]; rfl, rfl⟩
  unfold rdNumber at h
  simp only [] at h
  rw [hg] at h
  have hw := L_tak dgP (atR s 45)
  have hd := L_drp dgP (atR s 45)
  have hsp := span_split (fun c : UInt8 => dgP c.toNat) (L (atR s 45))
  have hall := tak_all dgP (atR s 45)
  rw [← hw, ← hd] at hsp
  generalize takB dgP (atR s 45) = w at *
  generalize drpB dgP (atR s 45) = s2 at *
  by_cases hw0 : w.size = 0
  · rw [if_pos hw0] at h; cases h
  · rw [if_neg hw0] at h
    have hwn : L w ≠ [] := by rw [size_L] at hw0; intro e; rw [e] at hw0; exact hw0 rfl
    cases e : atF s2 46 with
    | true =>
      rw [e, if_pos rfl] at h
      obtain ⟨c, r, e1, e2⟩ := atF_ex e
      have : c = 46 := u_eq e2
      subst this
      have hw2 := L_tak dgP (tl s2)
      have hd2 := L_drp dgP (tl s2)
      have hsp2 := span_split (fun c : UInt8 => dgP c.toNat) (L (tl s2))
      have hall2 := tak_all dgP (tl s2)
      rw [← hw2, ← hd2] at hsp2
      have et : L (tl s2) = r := by rw [L_tl, e1]; rfl
      generalize takB dgP (tl s2) = p at *
      generalize drpB dgP (tl s2) = s3 at *
      by_cases hb : w.size > 12 ∨ p.size = 0 ∨ p.size > 3
      · rw [if_pos hb] at h; cases h
      · rw [if_neg hb] at h
        obtain ⟨rfl, rfl⟩ := Prod.mk.inj (Option.some.inj h)
        simp only [size_L] at hb
        refine ⟨sg ++ (L w ++ 46 :: L p), ?_, ?_⟩
        · rw [hs, ← hsp, e1, ← et, ← hsp2]; simp
        · have := VT.dec sg (L w) (L p) h0 hwn hall (by omega) (by intro k; rw [k] at hb; exact hb (Or.inr (Or.inl rfl))) hall2 (by omega)
          rw [numV_L, L_app, L_app, zer_L, size_L]
          exact this
    | false =>
      rw [e, if_neg (by decide)] at h
      by_cases hb : w.size > 15
      · rw [if_pos hb] at h; cases h
      · rw [if_neg hb] at h
        obtain ⟨rfl, rfl⟩ := Prod.mk.inj (Option.some.inj h)
        rw [size_L] at hb
        exact ⟨sg ++ L w, by rw [hs, ← hsp]; simp, VT.int sg (L w) h0 hwn hall (by omega)⟩
theorem le_tok (c : UInt8) (h : leP c.toNat = true ∨ (c.toNat : Int) = 42) : toU c = true := by
  have := allU (fun c : UInt8 => !(leP c.toNat || decide ((c.toNat : Int) = 42)) || toU c) (by decide +kernel) c
  simp only [Bool.or_eq_true, Bool.not_eq_true', Bool.or_eq_false_iff, decide_eq_false_iff_not] at this
  rcases this with ⟨a, b⟩ | a
  · rcases h with h | h
    · rw [h] at a; cases a
    · exact absurd h b
  · exact a
theorem value_inv {s t : ByteArray} {v : Int × Int × ByteArray} (h : rdValue s = some (v, t)) : ∃ u, L s = u ++ L t ∧ VT u v.1 v.2.1 (L v.2.2) := by
  unfold rdValue at h
  by_cases h0 : 0 < s.size
  · rw [if_pos h0] at h
    obtain ⟨c, r, e⟩ := cons_of s h0
    have et : L (tl s) = r := by rw [L_tl, e]; rfl
    rw [bt0 e] at h
    by_cases c1 : (c.toNat : Int) = 45 ∨ dgP c.toNat = true
    · rw [if_pos c1] at h; exact number_inv h
    rw [if_neg c1] at h
    by_cases c2 : leP c.toNat = true ∨ (c.toNat : Int) = 42
    · rw [if_pos c2] at h
      obtain ⟨rfl, rfl⟩ := Prod.mk.inj (Option.some.inj h)
      have hw := L_tak tokP s
      have hd := L_drp tokP s
      have hsp := span_split (fun c : UInt8 => tokP c.toNat) (L s)
      rw [← hw, ← hd] at hsp
      refine ⟨L (takB tokP s), hsp.symm, ?_⟩
      have hc : L (takB tokP s) = c :: r.takeWhile (fun c => tokP c.toNat) := by
        rw [hw, e, List.takeWhile_cons, show tokP c.toNat = true from le_tok c c2]; simp
      have hall : ∀ x ∈ L (takB tokP s), toU x = true := tak_all tokP s
      show VT (L (takB tokP s)) 4 0 (L (takB tokP s))
      rw [hc] at hall ⊢
      exact VT.tok c _ c2 hall
    rw [if_neg c2] at h
    by_cases c3 : (c.toNat : Int) = 34
    · rw [if_pos c3] at h
      have : c = 34 := u_eq c3
      subst this
      obtain ⟨q, a1, a2, a3, a4⟩ := quoted_inv h
      refine ⟨34 :: q, by rw [e, ← et, a1]; rfl, ?_⟩
      rw [a3, a4]; exact VT.quo q _ a2
    rw [if_neg c3] at h
    by_cases c4 : (c.toNat : Int) = 58
    · rw [if_pos c4] at h
      have : c = 58 := u_eq c4
      subst this
      unfold rdBytes at h
      have hw := L_tak baP (tl s)
      have hd := L_drp baP (tl s)
      have hsp := span_split (fun c : UInt8 => baP c.toNat) (L (tl s))
      have hall : ∀ x ∈ L (takB baP (tl s)), baU x = true := tak_all baP (tl s)
      rw [← hw, ← hd] at hsp
      cases e5 : atF (drpB baP (tl s)) 58 with
      | false => rw [e5, if_neg (by decide)] at h; cases h
      | true =>
        rw [e5, if_pos rfl] at h
        obtain ⟨rfl, rfl⟩ := Prod.mk.inj (Option.some.inj h)
        obtain ⟨c', r', f1, f2⟩ := atF_ex e5
        have : c' = 58 := u_eq f2
        subst this
        refine ⟨58 :: (L (takB baP (tl s)) ++ [58]), ?_, VT.byt _ hall⟩
        rw [L_tl, f1, e, ← et, ← hsp, f1]; simp
    rw [if_neg c4] at h
    by_cases c5 : (c.toNat : Int) = 63
    · rw [if_pos c5] at h
      have : c = 63 := u_eq c5
      subst this
      unfold rdBool at h
      cases e5 : atF (tl s) 49 with
      | true =>
        rw [e5, if_pos rfl] at h
        obtain ⟨rfl, rfl⟩ := Prod.mk.inj (Option.some.inj h)
        obtain ⟨c', r', f1, f2⟩ := atF_ex e5
        have : c' = 49 := u_eq f2
        subst this
        exact ⟨[63, 49], by rw [L_tl, f1, e, ← et, f1]; rfl, VT.one⟩
      | false =>
        rw [e5, if_neg (by decide)] at h
        cases e6 : atF (tl s) 48 with
        | true =>
          rw [e6, if_pos rfl] at h
          obtain ⟨rfl, rfl⟩ := Prod.mk.inj (Option.some.inj h)
          obtain ⟨c', r', f1, f2⟩ := atF_ex e6
          have : c' = 48 := u_eq f2
          subst this
          exact ⟨[63, 48], by rw [L_tl, f1, e, ← et, f1]; rfl, VT.zero⟩
        | false => rw [e6, if_neg (by decide)] at h; cases h
    · rw [if_neg c5] at h; cases h
  · rw [if_neg h0] at h; cases h
/-! ### Keys -/
theorem key_first (c : UInt8) (h : smP c.toNat = true ∨ (c.toNat : Int) = 42) : keU c = true ∧ c ≠ 32 := by
  have := allU (fun c : UInt8 => !(smP c.toNat || decide ((c.toNat : Int) = 42)) || (keU c && !decide (c = 32))) (by decide +kernel) c
  simp only [Bool.or_eq_true, Bool.not_eq_true', Bool.or_eq_false_iff, decide_eq_false_iff_not, Bool.and_eq_true] at this
  rcases this with ⟨a, b⟩ | a
  · rcases h with h | h
    · rw [h] at a; cases a
    · exact absurd h b
  · exact a
theorem key_read (k r : List UInt8) (hk : KT k) (hr : ∀ c r', r = c :: r' → keU c = false) (s : ByteArray) (e : L s = k ++ r) : rdKey s = some (B k, B r) := by
  obtain ⟨c, w, rfl, h1, h2⟩ := hk
  have e1 : L s = c :: (w ++ r) := e
  unfold rdKey
  rw [if_pos ⟨size_pos e1, by rw [bt0 e1]; exact h1⟩]
  have k := takeW_app (fun c : UInt8 => keP c.toNat) (c :: w) r h2 hr
  have a1 : takB keP s = B (c :: w) := L_inj (by rw [L_tak, e, L_B]; exact k.1)
  have a2 : drpB keP s = B r := L_inj (by rw [L_drp, e, L_B]; exact k.2)
  rw [a1, a2]
theorem key_inv {s k t : ByteArray} (h : rdKey s = some (k, t)) : L s = L k ++ L t ∧ KT (L k) := by
  unfold rdKey at h
  by_cases h0 : 0 < s.size ∧ (smP (bt s 0) = true ∨ bt s 0 = 42)
  · rw [if_pos h0] at h
    obtain ⟨rfl, rfl⟩ := Prod.mk.inj (Option.some.inj h)
    obtain ⟨c, r, e⟩ := cons_of s h0.1
    have h1 := h0.2
    rw [bt0 e] at h1
    have hw := L_tak keP s
    have hd := L_drp keP s
    have hsp := span_split (fun c : UInt8 => keP c.toNat) (L s)
    rw [← hw, ← hd] at hsp
    have hall : ∀ x ∈ L (takB keP s), keU x = true := tak_all keP s
    refine ⟨hsp.symm, c, r.takeWhile (fun c => keP c.toNat), ?_, h1, hall⟩
    rw [hw, e, List.takeWhile_cons, show keP c.toNat = true from (key_first c h1).1]; simp
  · rw [if_neg h0] at h; cases h
/-! ### Parameters -/
/-- What text turns what parameters to what. -/
inductive PT : List UInt8 → List S52 → List S52 → Prop
  | nil (l : List S52) : PT [] l l
  | flag (b k u : List UInt8) (l l1 : List S52) (hb : ∀ c ∈ b, c = 32) (hk : KT k) (h : PT u (withP (B k) l ⟨B k, 6, 1, ⟨#[]⟩⟩) l1) : PT (59 :: (b ++ (k ++ u))) l l1
  | val (b k w u : List UInt8) (n i : Int) (t : List UInt8) (l l1 : List S52) (hb : ∀ c ∈ b, c = 32) (hk : KT k) (hv : VT w n i t) (h : PT u (withP (B k) l ⟨B k, n, i, B t⟩) l1) : PT (59 :: (b ++ (k ++ (61 :: (w ++ u))))) l l1
theorem PT.ends {u : List UInt8} {l l1 : List S52} (h : PT u l l1) : Ends u := by
  cases h with
  | nil => exact Ends.nil
  | flag => exact Ends.semi _
  | val => exact Ends.semi _
theorem PT.app {a b : List UInt8} {l l1 l2 : List S52} (h : PT a l l1) : PT b l1 l2 → PT (a ++ b) l l2 := by
  induction h with
  | nil => exact fun h => h
  | flag b' k u l l1 hb hk h ih =>
    intro h2
    have := PT.flag b' k (u ++ b) l l2 hb hk (ih h2)
    simpa using this
  | val b' k w u n i t l l1 hb hk hv h ih =>
    intro h2
    have := PT.val b' k w (u ++ b) n i t l l2 hb hk hv (ih h2)
    simpa using this
theorem spaces (b k r : List UInt8) (hb : ∀ c ∈ b, c = 32) (hk : KT k) (s : ByteArray) (e : L s = b ++ (k ++ r)) : L (drpB spP s) = k ++ r := by
  obtain ⟨c, w, rfl, h1, h2⟩ := hk
  rw [L_drp, e]
  refine (takeW_app (fun c : UInt8 => spP c.toNat) b ((c :: w) ++ r) (fun x hx => by rw [hb x hx]; decide) (fun c' r' h => ?_)).2
  obtain ⟨rfl, _⟩ := List.cons.inj h
  have := (key_first c h1).2
  unfold spP
  rw [beq_eq_false_iff_ne]
  intro k
  exact this (u_eq k)
theorem pt_read {u : List UInt8} {l l1 : List S52} (h : PT u l l1) : ∀ (d : Nat) (s : ByteArray), u.length < d → L s = u → pF d s l = some (l1, B []) := by
  induction h with
  | nil l =>
    intro d s hd e
    obtain ⟨d, rfl⟩ : ∃ d', d = d' + 1 := ⟨d - 1, by simp at hd; omega⟩
    rw [pF, atF_nil e, if_neg (by decide)]
    have : s = B [] := L_inj (by rw [e, L_B])
    rw [this]
  | flag b k u l l1 hb hk h ih =>
    intro d s hd e
    obtain ⟨d, rfl⟩ : ∃ d', d = d' + 1 := ⟨d - 1, by simp at hd; omega⟩
    have e1 : L (tl s) = b ++ (k ++ u) := by rw [L_tl, e]; rfl
    rw [pF, atF_cons e, if_pos (by decide), key_read k u hk (h.ends.not keyU_59) _ (spaces b k u hb hk _ e1)]
    simp only [Option.bind_some]
    have a : atF (B u) 61 = false := by
      cases hu : u with
      | nil => exact atF_nil (L_B []) 61
      | cons x u' => rw [atF_cons (L_B (x :: u'))]; have := h.ends x u' hu; subst this; decide
    rw [a, if_neg (by decide)]
    exact ih d (B u) (by simp at hd; omega) (L_B u)
  | val b k w u n i t l l1 hb hk hv h ih =>
    intro d s hd e
    obtain ⟨d, rfl⟩ : ∃ d', d = d' + 1 := ⟨d - 1, by simp at hd; omega⟩
    have e1 : L (tl s) = b ++ (k ++ (61 :: (w ++ u))) := by rw [L_tl, e]; rfl
    rw [pF, atF_cons e, if_pos (by decide), key_read k (61 :: (w ++ u)) hk (fun c r' h => by cases h; decide +kernel) _ (spaces b k _ hb hk _ e1)]
    simp only [Option.bind_some]
    rw [atF_cons (L_B (61 :: (w ++ u))), if_pos (by decide), value_read hv u h.ends _ (by rw [L_tl, L_B]; rfl)]
    simp only [Option.bind_some]
    exact ih d (B u) (by simp at hd; omega) (L_B u)
theorem all_of_take {q : UInt8 → Bool} (l : List UInt8) : ∀ c ∈ l.takeWhile q, q c = true := fun c hc => mem_takeWhile q l c hc
theorem pt_inv : ∀ (d : Nat) (s : ByteArray) (l l1 : List S52) (t : ByteArray), pF d s l = some (l1, t) → ∃ u, L s = u ++ L t ∧ PT u l l1 ∧ atF t 59 = false
  | 0, s, l, l1, t, h => by rw [pF] at h; cases h
  | d + 1, s, l, l1, t, h => by
    rw [pF] at h
    cases e : atF s 59 with
    | false =>
      rw [e, if_neg (by decide)] at h
      obtain ⟨rfl, rfl⟩ := Prod.mk.inj (Option.some.inj h)
      exact ⟨[], rfl, PT.nil _, e⟩
    | true =>
      rw [e, if_pos rfl] at h
      obtain ⟨c, r, e1, e2⟩ := atF_ex e
      have : c = 59 := u_eq e2
      subst this
      have et : L (tl s) = r := by rw [L_tl, e1]; rfl
      obtain ⟨⟨k, t1⟩, hk, h⟩ := Option.bind_eq_some_iff.1 h
      simp only [] at h
      obtain ⟨a1, a2⟩ := key_inv hk
      have hsp := span_split (fun c : UInt8 => spP c.toNat) (L (tl s))
      rw [← L_drp spP (tl s), a1] at hsp
      have hb : ∀ c ∈ (L (tl s)).takeWhile (fun c : UInt8 => spP c.toNat), c = 32 := by
        intro c hc
        have := all_of_take (q := fun c : UInt8 => spP c.toNat) (L (tl s)) c hc
        unfold spP at this
        exact u_eq (beq_iff_eq.1 this)
      generalize List.takeWhile (fun c : UInt8 => spP c.toNat) (L (tl s)) = bl at hsp hb
      cases e3 : atF t1 61 with
      | true =>
        rw [e3, if_pos rfl] at h
        obtain ⟨⟨v, t2⟩, hv, h⟩ := Option.bind_eq_some_iff.1 h
        obtain ⟨c', r', f1, f2⟩ := atF_ex e3
        have : c' = 61 := u_eq f2
        subst this
        have et1 : L (tl t1) = r' := by rw [L_tl, f1]; rfl
        obtain ⟨w, b1, b2⟩ := value_inv hv
        obtain ⟨u, g1, g2, g3⟩ := pt_inv d _ _ _ _ h
        simp only [] at g1 g2
        refine ⟨59 :: (bl ++ (L k ++ (61 :: (w ++ u)))), ?_, PT.val _ _ w u v.1 v.2.1 (L v.2.2) _ _ hb a2 b2 (by rw [B_L, B_L]; exact g2), g3⟩
        rw [e1, ← et, ← hsp, f1, ← et1, b1, g1]
        simp
      | false =>
        rw [e3, if_neg (by decide)] at h
        obtain ⟨u, g1, g2, g3⟩ := pt_inv d _ _ _ _ h
        refine ⟨59 :: (bl ++ (L k ++ u)), ?_, PT.flag _ _ u _ _ hb a2 (by rw [B_L]; exact g2), g3⟩
        rw [e1, ← et, ← hsp, g1]
        simp
/-! ### No blank ahead, none behind -/
def Last0 (u : List UInt8) : Prop := ∃ u' c, u = u' ++ [c] ∧ c ≠ 32
theorem Last0.cons {u : List UInt8} (h : Last0 u) (a : List UInt8) : Last0 (a ++ u) := by obtain ⟨u', c, rfl, hc⟩ := h; exact ⟨a ++ u', c, by simp, hc⟩
theorem last_all (q : UInt8 → Bool) (hq : q 32 = false) (w : List UInt8) (hw : w ≠ []) (h : ∀ c ∈ w, q c = true) : Last0 w := by
  refine ⟨w.dropLast, w.getLast hw, (List.dropLast_concat_getLast hw).symm, fun e => ?_⟩
  have := h _ (List.getLast_mem hw)
  rw [e, hq] at this; cases this
theorem qt_last {q t : List UInt8} (h : QT q t) : Last0 q := by
  induction h with
  | stop => exact ⟨[], 34, rfl, by decide⟩
  | plain c q t _ _ _ _ _ ih => exact ih.cons [c]
  | esc c q t _ _ ih => exact ih.cons [92, c]
theorem vt_last {u : List UInt8} {n i : Int} {t : List UInt8} (h : VT u n i t) : Last0 u := by
  cases h with
  | int sg w h0 h1 h2 h3 => exact (last_all dgU (by decide) w h1 h2).cons sg
  | dec sg w p h0 h1 h2 h3 h4 h5 h6 => exact ((last_all dgU (by decide) p h4 h5).cons (sg ++ (w ++ [46]))) |> fun h => by simpa using h
  | tok c w h0 h1 => exact last_all toU (by decide +kernel) _ (by simp) h1
  | quo q t h => exact (qt_last h).cons [34]
  | byt h => exact ⟨58 :: t, 58, by simp, by decide⟩
  | one => exact ⟨[63], 49, rfl, by decide⟩
  | zero => exact ⟨[63], 48, rfl, by decide⟩
theorem vt_first {u : List UInt8} {n i : Int} {t : List UInt8} (h : VT u n i t) : ∃ c u', u = c :: u' ∧ c ≠ 32 := by
  cases h with
  | int sg w h0 h1 h2 h3 =>
    rcases h0 with rfl | rfl
    · obtain ⟨c, w', rfl⟩ := List.exists_cons_of_ne_nil h1
      exact ⟨c, w', rfl, fun e => by have := h2 c (List.mem_cons_self ..); subst e; revert this; decide⟩
    · exact ⟨45, w, rfl, by decide⟩
  | dec sg w p h0 h1 h2 h3 h4 h5 h6 =>
    rcases h0 with rfl | rfl
    · obtain ⟨c, w', rfl⟩ := List.exists_cons_of_ne_nil h1
      exact ⟨c, w' ++ 46 :: p, rfl, fun e => by have := h2 c (List.mem_cons_self ..); subst e; revert this; decide⟩
    · exact ⟨45, w ++ 46 :: p, rfl, by decide⟩
  | tok c w h0 h1 => exact ⟨c, w, rfl, fun e => by have := h1 c (List.mem_cons_self ..); subst e; revert this; decide +kernel⟩
  | quo q t h => exact ⟨34, q, rfl, by decide⟩
  | byt h => exact ⟨58, _, rfl, by decide⟩
  | one => exact ⟨63, _, rfl, by decide⟩
  | zero => exact ⟨63, _, rfl, by decide⟩
theorem kt_last {k : List UInt8} (h : KT k) : Last0 k := by
  obtain ⟨c, w, rfl, h1, h2⟩ := h
  exact last_all keU (by decide +kernel) _ (by simp) h2
theorem pt_last {u : List UInt8} {l l1 : List S52} (h : PT u l l1) : u = [] ∨ Last0 u := by
  induction h with
  | nil => exact Or.inl rfl
  | flag b k u l l1 hb hk h ih =>
    refine Or.inr ?_
    rcases ih with rfl | ih
    · have := (kt_last hk).cons (59 :: b); simpa using this
    · have := ih.cons (59 :: (b ++ k)); simpa using this
  | val b k w u n i t l l1 hb hk hv h ih =>
    refine Or.inr ?_
    rcases ih with rfl | ih
    · have := (vt_last hv).cons (59 :: (b ++ (k ++ [61]))); simpa using this
    · have := ih.cons (59 :: (b ++ (k ++ (61 :: w)))); simpa using this
/-- What text tells what item. -/
def IT (u : List UInt8) (n i : Int) (t : List UInt8) (l : List S52) : Prop := ∃ a b, u = a ++ b ∧ VT a n i t ∧ PT b [] l
theorem next_read {u : List UInt8} {n i : Int} {t : List UInt8} {l : List S52} (h : IT u n i t l) (s : ByteArray) (e : L s = u) : rdNext s = some ((n, i, B t), l, B []) := by
  obtain ⟨a, b, rfl, hv, hp⟩ := h
  unfold rdNext
  rw [value_read hv b hp.ends s e]
  simp only [Option.bind_some]
  unfold rdParams
  rw [pt_read hp _ (B b) (by rw [size_L, L_B]; omega) (L_B b)]
  rfl
theorem next_inv {s : ByteArray} {v : Int × Int × ByteArray} {l : List S52} {t : ByteArray} (h : rdNext s = some (v, l, t)) : ∃ u, L s = u ++ L t ∧ IT u v.1 v.2.1 (L v.2.2) l ∧ atF t 59 = false := by
  unfold rdNext at h
  obtain ⟨⟨v', t1⟩, h1, h⟩ := Option.bind_eq_some_iff.1 h
  obtain ⟨⟨l', t2⟩, h2, h⟩ := Option.bind_eq_some_iff.1 h
  have h := Option.some.inj h
  simp only [Prod.mk.injEq] at h
  obtain ⟨rfl, rfl, rfl⟩ := h
  obtain ⟨a, a1, a2⟩ := value_inv h1
  obtain ⟨b, b1, b2, b3⟩ := pt_inv _ _ _ _ _ h2
  exact ⟨a ++ b, by rw [a1, b1]; simp, ⟨a, b, rfl, a2, b2⟩, b3⟩
theorem trim_same (u : List UInt8) (c : UInt8) (u' : List UInt8) (e : u = c :: u') (hc : c ≠ 32) (h : Last0 u) : Lib.trimB u 32 = u := by
  have h1 : Lib.trimRightB u 32 = u := by
    obtain ⟨w, x, rfl, hx⟩ := h
    unfold Lib.trimRightB
    rw [List.reverse_append, List.reverse_singleton, List.singleton_append, List.dropWhile_cons, if_neg (by simpa using hx)]
    simp
  unfold Lib.trimB
  rw [h1]
  unfold Lib.trimLeftB
  rw [e, List.dropWhile_cons, if_neg (by simpa using hc)]
theorem trim_len (u : List UInt8) : (Lib.trimB u 32).length ≤ u.length := by
  unfold Lib.trimB Lib.trimLeftB Lib.trimRightB
  have h1 := (List.dropWhile_sublist (fun c : UInt8 => c == 32) (l := (u.reverse.dropWhile (· == 32)).reverse)).length_le
  have h2 := (List.dropWhile_sublist (fun c : UInt8 => c == 32) (l := u.reverse)).length_le
  simp only [List.length_reverse] at h1 h2
  omega
theorem IT.trim {u : List UInt8} {n i : Int} {t : List UInt8} {l : List S52} (h : IT u n i t l) : Lib.trimB u 32 = u := by
  obtain ⟨a, b, rfl, hv, hp⟩ := h
  obtain ⟨c, a', rfl, hc⟩ := vt_first hv
  refine trim_same _ c (a' ++ b) rfl hc ?_
  rcases pt_last hp with rfl | k
  · simpa using vt_last hv
  · exact k.cons _
theorem IT.pos {u : List UInt8} {n i : Int} {t : List UInt8} {l : List S52} (h : IT u n i t l) : 0 < u.length := by
  obtain ⟨a, b, rfl, hv, hp⟩ := h
  obtain ⟨c, a', rfl, hc⟩ := vt_first hv
  simp
theorem parse_read {u : List UInt8} {n i : Int} {t : List UInt8} {l : List S52} (h : IT u n i t l) (hl : u.length ≤ 4000) (s : ByteArray) (e : L s = u) : sfitem_Parse.f s = some (n, i, B t, l, 0) := by
  have hz : s.size = u.length := by rw [size_L, e]
  unfold sfitem_Parse.f strings_Trim.f
  rw [if_pos ⟨rfl, by omega⟩]
  have ht : trimSp s = s := by
    apply L_inj
    have : L (trimSp s) = Lib.trimB (L s) 32 := by unfold trimSp L; simp
    rw [this, e, h.trim]
  rw [ht]
  simp only [Option.bind_some]
  unfold sfitem_Next.f
  rw [if_pos (by omega), next_read h s e]
  simp only [Option.bind_some]
  rw [if_pos trivial, if_pos (by rw [Lib.toList_data]; exact L_B []), if_neg (by omega)]
theorem parse_inv {s : ByteArray} {n i : Int} {t : ByteArray} {l : List S52} (h : sfitem_Parse.f s = some (n, i, t, l, 0)) : ∃ u, IT u n i (L t) l ∧ u.length ≤ s.size ∧ s.size ≤ 4000 := by
  unfold sfitem_Parse.f strings_Trim.f at h
  by_cases hz : (⟨#[32]⟩ : ByteArray) = ⟨#[32]⟩ ∧ s.size ≤ 9223372036854775807
  · rw [if_pos hz] at h
    simp only [Option.bind_some] at h
    unfold sfitem_Next.f at h
    by_cases hy : (trimSp s).size ≤ 2199023255552
    · rw [if_pos hy] at h
      cases hn : rdNext (trimSp s) with
      | none => rw [hn] at h; simp at h
      | some x =>
        obtain ⟨v, l', t'⟩ := x
        rw [hn] at h
        simp only [Option.bind_some] at h
        rw [if_pos trivial] at h
        by_cases ht : t'.toList = ([] : List UInt8)
        · rw [if_pos ht] at h
          by_cases h4 : (s.size : Int) > 4000
          · rw [if_pos h4] at h; simp at h
          · rw [if_neg h4] at h
            have h := Option.some.inj h
            simp only [Prod.mk.injEq] at h
            obtain ⟨rfl, rfl, rfl, rfl, _⟩ := h
            obtain ⟨u, a1, a2, a3⟩ := next_inv hn
            have ht' : L t' = [] := by rw [← ht]; exact (Lib.toList_data t').symm
            rw [ht', List.append_nil] at a1
            have : L (trimSp s) = Lib.trimB (L s) 32 := by unfold trimSp L; simp
            refine ⟨u, a2, ?_, by omega⟩
            have k := trim_len (L s)
            rw [← this, a1, ← size_L] at k
            exact k
        · rw [if_neg ht] at h; simp at h
    · rw [if_neg hy] at h; simp at h
  · exact absurd h (by rw [if_neg hz]; simp)
end Go.Proofs.YtciigmlibnpeeaaDoor.Pl
