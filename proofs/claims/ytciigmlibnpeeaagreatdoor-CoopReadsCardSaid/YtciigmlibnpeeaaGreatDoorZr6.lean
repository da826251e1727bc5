/- The law CoopReads: its row and card. Its conditions: the row's own. -/
import Derived.Test.YtciigmlibnpeeaaGreatDoorZr5
import Derived.Carry
import Derived.Deep.SlicePairs
import Derived.Lib.SmallJoins
/- Chapter 5: what the reader has read is such a text; parameters; whole items. -/
namespace Go.Proofs.YtciigmlibnpeeaaGreatDoor.Pl
open Go.RowKit Go.Proofs.YtciigmlibnpeeaaGreatDoor.Q Go.Proofs.YtciigmlibnpeeaaGreatDoor.Sf Go.Proofs.YtciigmlibnpeeaaGreatDoorW.PrintWords Go.Proofs.YtciigmlibnpeeaaGreatDoorW.PrintLast
set_option linter.unusedVariables false
set_option linter.unusedSimpArgs false
theorem u_eq {c d : UInt8} (h : (c.toNat : Int) = (d.toNat : Int)) : c = d := UInt8.toNat_inj.1 (by omega)
theorem cons_of (s : ByteArray) (h : 0 < s.size) : ∃ c r, L s = c :: r := by
  cases e : L s with
  | nil => exact absurd h (size_nil e)
  | cons c r => exact ⟨c, r, rfl⟩
theorem qt_inv : ∀ (d : Nat) (s : ByteArray) (xs : List Int) (o t : ByteArray), qF d s xs = some (o, t) → ∃ q m, L s = q ++ L t ∧ QT q m ∧ L o = L (strOfNums xs) ++ m
  | 0, s, xs, o, t, h => by rw [qF] at h; cases h
  | d + 1, s, xs, o, t, h => by
    rw [qF] at h
    by_cases h0 : 0 < s.size
    · rw [if_pos h0] at h
      obtain ⟨c, r, e⟩ := cons_of s h0
      have et : L (tl s) = r := by rw [L_tl, e]; rfl
      rw [bt0 e] at h
      by_cases c34 : (c.toNat : Int) = 34
      · rw [if_pos c34] at h
        obtain ⟨rfl, rfl⟩ := Prod.mk.inj (Option.some.inj h)
        have : c = 34 := u_eq c34
        subst this
        exact ⟨[34], [], by rw [et, e]; rfl, QT.stop, by simp⟩
      · rw [if_neg c34] at h
        by_cases bad : (c.toNat : Int) < 32 ∨ 126 < (c.toNat : Int) ∨ ((c.toNat : Int) = 92 ∧ ¬ (0 < (tl s).size ∧ wiP (bt (tl s) 0) ⟨#[34, 92]⟩ = true))
        · rw [if_pos bad] at h; cases h
        · rw [if_neg bad] at h
          by_cases c92 : (c.toNat : Int) = 92
          · rw [if_pos c92] at h
            have ok : 0 < (tl s).size ∧ wiP (bt (tl s) 0) ⟨#[34, 92]⟩ = true := Classical.byContradiction fun k => bad (Or.inr (Or.inr ⟨c92, k⟩))
            obtain ⟨c2, r2, e2⟩ := cons_of (tl s) ok.1
            have ok2 := ok.2
            rw [bt0 e2, wiQ] at ok2
            rw [bt0 e2] at h
            obtain ⟨q, m, a1, a2, a3⟩ := qt_inv d _ _ _ _ h
            have e3 : L (tl (tl s)) = r2 := by rw [L_tl, e2]; rfl
            have : c = 92 := u_eq c92
            subst this
            refine ⟨92 :: c2 :: q, c2 :: m, ?_, QT.esc c2 q m (of_decide_eq_true ok2) a2, ?_⟩
            · rw [e3] at a1; rw [e, ← et, e2, a1]; rfl
            · rw [a3, num_app xs c2 _ rfl]; simp
          · rw [if_neg c92] at h
            obtain ⟨q, m, a1, a2, a3⟩ := qt_inv d _ _ _ _ h
            refine ⟨c :: q, c :: m, ?_, QT.plain c q m (by omega) (by omega) (by omega) (by omega) a2, ?_⟩
            · rw [et] at a1; rw [e, a1]; rfl
            · rw [a3, num_app xs c _ rfl]; simp
    · rw [if_neg h0] at h; cases h
theorem quoted_inv {s t : ByteArray} {v : Int × Int × ByteArray} (h : rdQuoted s = some (v, t)) : ∃ q, L s = q ++ L t ∧ QT q (L v.2.2) ∧ v.1 = 3 ∧ v.2.1 = 0 := by
  unfold rdQuoted at h
  obtain ⟨⟨o, t'⟩, hq, hm⟩ := Option.map_eq_some_iff.1 h
  unfold mkQ at hm
  obtain ⟨rfl, rfl⟩ := Prod.mk.inj hm
  obtain ⟨q, m, a1, a2, a3⟩ := qt_inv _ _ _ _ _ hq
  refine ⟨q, a1, ?_, rfl, rfl⟩
  have : L (strOfNums []) = [] := rfl
  rw [this] at a3
  simpa [a3] using a2
theorem number_inv {s t : ByteArray} {v : Int × Int × ByteArray} (h : rdNumber s = some (v, t)) : ∃ u, L s = u ++ L t ∧ VT u v.1 v.2.1 (L v.2.2) := by
  obtain ⟨sg, h0, hs, hg⟩ : ∃ sg : List UInt8, (sg = [] ∨ sg = [45]) ∧ L s = sg ++ L (atR s 45) ∧ (if atF s 45 = true then (-1 : Int) else 1) = sgV sg := by
    unfold atR
    cases e : atF s 45 with
    | false => exact ⟨[], Or.inl rfl, rfl, rfl⟩
    | true =>
      obtain ⟨c, r, e1, e2⟩ := atF_ex e
      have : c = 45 := u_eq e2
      subst this
      exact ⟨[45], Or.inr rfl, by rw [if_pos rfl, L_tl, e1]; rfl, rfl⟩
  unfold rdNumber at h
  simp only [] at h
  rw [hg] at h
  have hw := L_tak dgP (atR s 45)
  have hd := L_drp dgP (atR s 45)
  have hsp := span_split (fun c : UInt8 => dgP c.toNat) (L (atR s 45))
  have hall := tak_all dgP (atR s 45)
  rw [← hw, ← hd] at hsp
  generalize takB dgP (atR s 45) = w at *
  generalize drpB dgP (atR s 45) = s2 at *
  by_cases hw0 : w.size = 0
  · rw [if_pos hw0] at h; cases h
  · rw [if_neg hw0] at h
    have hwn : L w ≠ [] := by rw [size_L] at hw0; intro e; rw [e] at hw0; exact hw0 rfl
    cases e : atF s2 46 with
    | true =>
      rw [e, if_pos rfl] at h
      obtain ⟨c, r, e1, e2⟩ := atF_ex e
      have : c = 46 := u_eq e2
      subst this
      have hw2 := L_tak dgP (tl s2)
      have hd2 := L_drp dgP (tl s2)
      have hsp2 := span_split (fun c : UInt8 => dgP c.toNat) (L (tl s2))
      have hall2 := tak_all dgP (tl s2)
      rw [← hw2, ← hd2] at hsp2
      have et : L (tl s2) = r := by rw [L_tl, e1]; rfl
      generalize takB dgP (tl s2) = p at *
      generalize drpB dgP (tl s2) = s3 at *
      by_cases hb : w.size > 12 ∨ p.size = 0 ∨ p.size > 3
      · rw [if_pos hb] at h; cases h
      · rw [if_neg hb] at h
        obtain ⟨rfl, rfl⟩ := Prod.mk.inj (Option.some.inj h)
        simp only [size_L] at hb
        refine ⟨sg ++ (L w ++ 46 :: L p), ?_, ?_⟩
        · rw [hs, ← hsp, e1, ← et, ← hsp2]; simp
        · have := VT.dec sg (L w) (L p) h0 hwn hall (by omega) (by intro k; rw [k] at hb; exact hb (Or.inr (Or.inl rfl))) hall2 (by omega)
          rw [numV_L, L_app, L_app, zer_L, size_L]
          exact this
    | false =>
      rw [e, if_neg (by decide)] at h
      by_cases hb : w.size > 15
      · rw [if_pos hb] at h; cases h
      · rw [if_neg hb] at h
        obtain ⟨rfl, rfl⟩ := Prod.mk.inj (Option.some.inj h)
        rw [size_L] at hb
        exact ⟨sg ++ L w, by rw [hs, ← hsp]; simp, VT.int sg (L w) h0 hwn hall (by omega)⟩
theorem le_tok (c : UInt8) (h : leP c.toNat = true ∨ (c.toNat : Int) = 42) : toU c = true := by
  have := allU (fun c : UInt8 => !(leP c.toNat || decide ((c.toNat : Int) = 42)) || toU c) (by decide +kernel) c
  simp only [Bool.or_eq_true, Bool.not_eq_true', Bool.or_eq_false_iff, decide_eq_false_iff_not] at this
  rcases this with ⟨a, b⟩ | a
  · rcases h with h | h
    · rw [h] at a; cases a
    · exact absurd h b
  · exact a
theorem value_inv {s t : ByteArray} {v : Int × Int × ByteArray} (h : rdValue s = some (v, t)) : ∃ u, L s = u ++ L t ∧ VT u v.1 v.2.1 (L v.2.2) := by
  unfold rdValue at h
  by_cases h0 : 0 < s.size
  · rw [if_pos h0] at h
    obtain ⟨c, r, e⟩ := cons_of s h0
    have et : L (tl s) = r := by rw [L_tl, e]; rfl
    rw [bt0 e] at h
    by_cases c1 : (c.toNat : Int) = 45 ∨ dgP c.toNat = true
    · rw [if_pos c1] at h; exact number_inv h
    rw [if_neg c1] at h
    by_cases c2 : leP c.toNat = true ∨ (c.toNat : Int) = 42
    · rw [if_pos c2] at h
      obtain ⟨rfl, rfl⟩ := Prod.mk.inj (Option.some.inj h)
      have hw := L_tak tokP s
      have hd := L_drp tokP s
      have hsp := span_split (fun c : UInt8 => tokP c.toNat) (L s)
      rw [← hw, ← hd] at hsp
      refine ⟨L (takB tokP s), hsp.symm, ?_⟩
      have hc : L (takB tokP s) = c :: r.takeWhile (fun c => tokP c.toNat) := by
        rw [hw, e, List.takeWhile_cons, show tokP c.toNat = true from le_tok c c2]; simp
      have hall : ∀ x ∈ L (takB tokP s), toU x = true := tak_all tokP s
      show VT (L (takB tokP s)) 4 0 (L (takB tokP s))
      rw [hc] at hall ⊢
      exact VT.tok c _ c2 hall
    rw [if_neg c2] at h
    by_cases c3 : (c.toNat : Int) = 34
    · rw [if_pos c3] at h
      have : c = 34 := u_eq c3
      subst this
      obtain ⟨q, a1, a2, a3, a4⟩ := quoted_inv h
      refine ⟨34 :: q, by rw [e, ← et, a1]; rfl, ?_⟩
      rw [a3, a4]; exact VT.quo q _ a2
    rw [if_neg c3] at h
    by_cases c4 : (c.toNat : Int) = 58
    · rw [if_pos c4] at h
      have : c = 58 := u_eq c4
      subst this
      unfold rdBytes at h
      have hw := L_tak baP (tl s)
      have hd := L_drp baP (tl s)
      have hsp := span_split (fun c : UInt8 => baP c.toNat) (L (tl s))
      have hall : ∀ x ∈ L (takB baP (tl s)), baU x = true := tak_all baP (tl s)
      rw [← hw, ← hd] at hsp
      cases e5 : atF (drpB baP (tl s)) 58 with
      | false => rw [e5, if_neg (by decide)] at h; cases h
      | true =>
        rw [e5, if_pos rfl] at h
        obtain ⟨rfl, rfl⟩ := Prod.mk.inj (Option.some.inj h)
        obtain ⟨c', r', f1, f2⟩ := atF_ex e5
        have : c' = 58 := u_eq f2
        subst this
        refine ⟨58 :: (L (takB baP (tl s)) ++ [58]), ?_, VT.byt _ hall⟩
        rw [L_tl, f1, e, ← et, ← hsp, f1]; simp
    rw [if_neg c4] at h
    by_cases c5 : (c.toNat : Int) = 63
    · rw [if_pos c5] at h
      have : c = 63 := u_eq c5
      subst this
      unfold rdBool at h
      cases e5 : atF (tl s) 49 with
      | true =>
        rw [e5, if_pos rfl] at h
        obtain ⟨rfl, rfl⟩ := Prod.mk.inj (Option.some.inj h)
        obtain ⟨c', r', f1, f2⟩ := atF_ex e5
        have : c' = 49 := u_eq f2
        subst this
        exact ⟨[63, 49], by rw [L_tl, f1, e, ← et, f1]; rfl, VT.one⟩
      | false =>
        rw [e5, if_neg (by decide)] at h
        cases e6 : atF (tl s) 48 with
        | true =>
          rw [e6, if_pos rfl] at h
          obtain ⟨rfl, rfl⟩ := Prod.mk.inj (Option.some.inj h)
          obtain ⟨c', r', f1, f2⟩ := atF_ex e6
          have : c' = 48 := u_eq f2
          subst this
          exact ⟨[63, 48], by rw [L_tl, f1, e, ← et, f1]; rfl, VT.zero⟩
        | false => rw [e6, if_neg (by decide)] at h; cases h
    · rw [if_neg c5] at h; cases h
  · rw [if_neg h0] at h; cases h
theorem key_first (c : UInt8) (h : smP c.toNat = true ∨ (c.toNat : Int) = 42) : keU c = true ∧ c ≠ 32 := by
  have := allU (fun c : UInt8 => !(smP c.toNat || decide ((c.toNat : Int) = 42)) || (keU c && !decide (c = 32))) (by decide +kernel) c
  simp only [Bool.or_eq_true, Bool.not_eq_true', Bool.or_eq_false_iff, decide_eq_false_iff_not, Bool.and_eq_true] at this
  rcases this with ⟨a, b⟩ | a
  · rcases h with h | h
    · rw [h] at a; cases a
    · exact absurd h b
  · exact a
theorem key_inv {s k t : ByteArray} (h : rdKey s = some (k, t)) : L s = L k ++ L t ∧ KT (L k) := by
  unfold rdKey at h
  by_cases h0 : 0 < s.size ∧ (smP (bt s 0) = true ∨ bt s 0 = 42)
  · rw [if_pos h0] at h
    obtain ⟨rfl, rfl⟩ := Prod.mk.inj (Option.some.inj h)
    obtain ⟨c, r, e⟩ := cons_of s h0.1
    have h1 := h0.2
    rw [bt0 e] at h1
    have hw := L_tak keP s
    have hd := L_drp keP s
    have hsp := span_split (fun c : UInt8 => keP c.toNat) (L s)
    rw [← hw, ← hd] at hsp
    have hall : ∀ x ∈ L (takB keP s), keU x = true := tak_all keP s
    refine ⟨hsp.symm, c, r.takeWhile (fun c => keP c.toNat), ?_, h1, hall⟩
    rw [hw, e, List.takeWhile_cons, show keP c.toNat = true from (key_first c h1).1]; simp
  · rw [if_neg h0] at h; cases h
/-- What text turns what parameters to what. -/
inductive PT : List UInt8 → List S61 → List S61 → Prop
  | nil (l : List S61) : PT [] l l
  | flag (b k u : List UInt8) (l l1 : List S61) (hb : ∀ c ∈ b, c = 32) (hk : KT k) (h : PT u (withP (B k) l ⟨B k, 6, 1, ⟨#[]⟩⟩) l1) : PT (59 :: (b ++ (k ++ u))) l l1
  | val (b k w u : List UInt8) (n i : Int) (t : List UInt8) (l l1 : List S61) (hb : ∀ c ∈ b, c = 32) (hk : KT k) (hv : VT w n i t) (h : PT u (withP (B k) l ⟨B k, n, i, B t⟩) l1) : PT (59 :: (b ++ (k ++ (61 :: (w ++ u))))) l l1
theorem all_of_take {q : UInt8 → Bool} (l : List UInt8) : ∀ c ∈ l.takeWhile q, q c = true := fun c hc => mem_takeWhile q l c hc
theorem pt_inv : ∀ (d : Nat) (s : ByteArray) (l l1 : List S61) (t : ByteArray), pF d s l = some (l1, t) → ∃ u, L s = u ++ L t ∧ PT u l l1 ∧ atF t 59 = false
  | 0, s, l, l1, t, h => by rw [pF] at h; cases h
  | d + 1, s, l, l1, t, h => by
    rw [pF] at h
    cases e : atF s 59 with
    | false =>
      rw [e, if_neg (by decide)] at h
      obtain ⟨rfl, rfl⟩ := Prod.mk.inj (Option.some.inj h)
      exact ⟨[], rfl, PT.nil _, e⟩
    | true =>
      rw [e, if_pos rfl] at h
      obtain ⟨c, r, e1, e2⟩ := atF_ex e
      have : c = 59 := u_eq e2
      subst this
      have et : L (tl s) = r := by rw [L_tl, e1]; rfl
      obtain ⟨⟨k, t1⟩, hk, h⟩ := Option.bind_eq_some_iff.1 h
      simp only [] at h
      obtain ⟨a1, a2⟩ := key_inv hk
      have hsp := span_split (fun c : UInt8 => spP c.toNat) (L (tl s))
      rw [← L_drp spP (tl s), a1] at hsp
      have hb : ∀ c ∈ (L (tl s)).takeWhile (fun c : UInt8 => spP c.toNat), c = 32 := by
        intro c hc
        have := all_of_take (q := fun c : UInt8 => spP c.toNat) (L (tl s)) c hc
        unfold spP at this
        exact u_eq (beq_iff_eq.1 this)
      generalize List.takeWhile (fun c : UInt8 => spP c.toNat) (L (tl s)) = bl at hsp hb
      cases e3 : atF t1 61 with
      | true =>
        rw [e3, if_pos rfl] at h
        obtain ⟨⟨v, t2⟩, hv, h⟩ := Option.bind_eq_some_iff.1 h
        obtain ⟨c', r', f1, f2⟩ := atF_ex e3
        have : c' = 61 := u_eq f2
        subst this
        have et1 : L (tl t1) = r' := by rw [L_tl, f1]; rfl
        obtain ⟨w, b1, b2⟩ := value_inv hv
        obtain ⟨u, g1, g2, g3⟩ := pt_inv d _ _ _ _ h
        simp only [] at g1 g2
        refine ⟨59 :: (bl ++ (L k ++ (61 :: (w ++ u)))), ?_, PT.val _ _ w u v.1 v.2.1 (L v.2.2) _ _ hb a2 b2 (by rw [B_L, B_L]; exact g2), g3⟩
        rw [e1, ← et, ← hsp, f1, ← et1, b1, g1]
        simp
      | false =>
        rw [e3, if_neg (by decide)] at h
        obtain ⟨u, g1, g2, g3⟩ := pt_inv d _ _ _ _ h
        refine ⟨59 :: (bl ++ (L k ++ u)), ?_, PT.flag _ _ u _ _ hb a2 (by rw [B_L]; exact g2), g3⟩
        rw [e1, ← et, ← hsp, g1]
        simp
/-- What text tells what item. -/
def IT (u : List UInt8) (n i : Int) (t : List UInt8) (l : List S61) : Prop := ∃ a b, u = a ++ b ∧ VT a n i t ∧ PT b [] l
theorem next_inv {s : ByteArray} {v : Int × Int × ByteArray} {l : List S61} {t : ByteArray} (h : rdNext s = some (v, l, t)) : ∃ u, L s = u ++ L t ∧ IT u v.1 v.2.1 (L v.2.2) l ∧ atF t 59 = false := by
  unfold rdNext at h
  obtain ⟨⟨v', t1⟩, h1, h⟩ := Option.bind_eq_some_iff.1 h
  obtain ⟨⟨l', t2⟩, h2, h⟩ := Option.bind_eq_some_iff.1 h
  have h := Option.some.inj h
  simp only [Prod.mk.injEq] at h
  obtain ⟨rfl, rfl, rfl⟩ := h
  obtain ⟨a, a1, a2⟩ := value_inv h1
  obtain ⟨b, b1, b2, b3⟩ := pt_inv _ _ _ _ _ h2
  exact ⟨a ++ b, by rw [a1, b1]; simp, ⟨a, b, rfl, a2, b2⟩, b3⟩
theorem trim_len (u : List UInt8) : (Lib.trimB u 32).length ≤ u.length := by
  unfold Lib.trimB Lib.trimLeftB Lib.trimRightB
  have h1 := (List.dropWhile_sublist (fun c : UInt8 => c == 32) (l := (u.reverse.dropWhile (· == 32)).reverse)).length_le
  have h2 := (List.dropWhile_sublist (fun c : UInt8 => c == 32) (l := u.reverse)).length_le
  simp only [List.length_reverse] at h1 h2
  omega
theorem parse_inv {s : ByteArray} {n i : Int} {t : ByteArray} {l : List S61} (h : sfitem_Parse.f s = some (n, i, t, l, 0)) : ∃ u, IT u n i (L t) l ∧ u.length ≤ s.size ∧ s.size ≤ 4000 := by
  unfold sfitem_Parse.f strings_Trim.f at h
  by_cases hz : (⟨#[32]⟩ : ByteArray) = ⟨#[32]⟩ ∧ s.size ≤ 9223372036854775807
  · rw [if_pos hz] at h
    simp only [Option.bind_some] at h
    unfold sfitem_Next.f at h
    by_cases hy : (trimSp s).size ≤ 2199023255552
    · rw [if_pos hy] at h
      cases hn : rdNext (trimSp s) with
      | none => rw [hn] at h; simp at h
      | some x =>
        obtain ⟨v, l', t'⟩ := x
        rw [hn] at h
        simp only [Option.bind_some] at h
        rw [if_pos trivial] at h
        by_cases ht : t'.toList = ([] : List UInt8)
        · rw [if_pos ht] at h
          by_cases h4 : (s.size : Int) > 4000
          · rw [if_pos h4] at h; simp at h
          · rw [if_neg h4] at h
            have h := Option.some.inj h
            simp only [Prod.mk.injEq] at h
            obtain ⟨rfl, rfl, rfl, rfl, _⟩ := h
            obtain ⟨u, a1, a2, a3⟩ := next_inv hn
            have ht' : L t' = [] := by rw [← ht]; exact (Lib.toList_data t').symm
            rw [ht', List.append_nil] at a1
            have : L (trimSp s) = Lib.trimB (L s) 32 := by unfold trimSp L; simp
            refine ⟨u, a2, ?_, by omega⟩
            have k := trim_len (L s)
            rw [← this, a1, ← size_L] at k
            exact k
        · rw [if_neg ht] at h; simp at h
    · rw [if_neg hy] at h; simp at h
  · exact absurd h (by rw [if_neg hz]; simp)
end Go.Proofs.YtciigmlibnpeeaaGreatDoor.Pl
/- What ends: for all rounds from some number on, a function with rounds gives one answer. -/
namespace Go.Proofs.YtciigmlibnpeeaaGreatDoor.Pl
set_option linter.unusedVariables false
set_option linter.unusedSimpArgs false
open Go.RowKit
def Evn {α : Type} (g : Nat → Option α) (r : α) : Prop := ∃ K, ∀ k, K ≤ k → g k = some r
theorem Evn.ret {α : Type} {x : Option α} {r : α} (h : x = some r) : Evn (fun _ => x) r := ⟨0, fun _ _ => h⟩
theorem Evn.some {α : Type} (r : α) : Evn (fun _ => some r) r := ⟨0, fun _ _ => rfl⟩
theorem Evn.bind {α β : Type} {g : Nat → Option α} {f : Nat → α → Option β} {a : α} {r : β} (hg : Evn g a) (hf : Evn (fun k => f k a) r) : Evn (fun k => (g k).bind (f k)) r := by
  obtain ⟨K, h⟩ := hg
  obtain ⟨L, h'⟩ := hf
  refine ⟨max K L, fun k hk => ?_⟩
  show (g k).bind (f k) = _
  rw [h k (by omega)]
  exact h' k (by omega)
theorem Evn.succ {α : Type} {g : Nat → Option α} {r : α} (h : Evn (fun k => g (k + 1)) r) : Evn g r := by
  obtain ⟨K, h⟩ := h
  refine ⟨K + 1, fun k hk => ?_⟩
  have h1 : g (k - 1 + 1) = Option.some r := h (k - 1) (by omega)
  rwa [Nat.sub_add_cancel (by omega)] at h1
theorem Evn.congr {α : Type} {g g' : Nat → Option α} {r : α} (h : Evn g' r) (e : ∀ k, g k = g' k) : Evn g r := by
  obtain ⟨K, h⟩ := h
  exact ⟨K, fun k hk => (e k).trans (h k hk)⟩
theorem Evn.ex {α : Type} {g : Nat → Option α} {r : α} (h : Evn g r) : ∃ k, g k = Option.some r := by
  obtain ⟨K, h⟩ := h
  exact ⟨K, h K (Nat.le_refl _)⟩
theorem Evn.iff_pos {α : Type} {c : Prop} [Decidable c] {a b : Nat → Option α} {r : α} (hc : c) (h : Evn a r) : Evn (fun k => if c then a k else b k) r := h.congr fun k => if_pos hc
theorem Evn.iff_neg {α : Type} {c : Prop} [Decidable c] {a b : Nat → Option α} {r : α} (hc : ¬ c) (h : Evn b r) : Evn (fun k => if c then a k else b k) r := h.congr fun k => if_neg hc
theorem wr64 {x : Int} (h0 : -9223372036854775808 ≤ x) (h1 : x ≤ 9223372036854775807) : wrap64 x = x := IntWalk.wrap64_in x ⟨h0, h1⟩
end Go.Proofs.YtciigmlibnpeeaaGreatDoor.Pl
/- A trimmed text is no longer than it was (for a seat without headers.Parts). -/
namespace Go.Proofs.YtciigmlibnpeeaaGreatDoor.Pl
set_option linter.unusedVariables false
set_option linter.unusedSimpArgs false
open Go.RowKit Go.Proofs.YtciigmlibnpeeaaGreatDoor.Q Go.Proofs.YtciigmlibnpeeaaGreatDoorW.PrintWords Go.Proofs.YtciigmlibnpeeaaGreatDoorW.PrintLast
theorem trimBA_len (s : ByteArray) : (trimBA s).size ≤ s.size := by
  show (Lib.trimS s.data.toList [9, 10, 12, 13, 32]).toArray.size ≤ s.data.size
  unfold Lib.trimS Lib.trimLeftS Lib.trimRightS
  rw [List.size_toArray, ← Array.length_toList]
  refine Nat.le_trans (List.dropWhile_sublist _).length_le ?_
  rw [List.length_reverse]
  refine Nat.le_trans (List.dropWhile_sublist _).length_le ?_
  rw [List.length_reverse]
  exact Nat.le_refl _
end Go.Proofs.YtciigmlibnpeeaaGreatDoor.Pl
/- Making small and trimming, of texts that are not too long. -/
namespace Go.Proofs.YtciigmlibnpeeaaGreatDoor.Pl
set_option linter.unusedVariables false
set_option linter.unusedSimpArgs false
open Go.RowKit Go.Proofs.YtciigmlibnpeeaaGreatDoor.Q Go.Proofs.YtciigmlibnpeeaaGreatDoorW.PrintWords Go.Proofs.YtciigmlibnpeeaaGreatDoorW.PrintLast
theorem lower_f (s : ByteArray) (h : s.size ≤ 281474976710656) : octet_Lower.f s = some (lowBA s) := if_pos h
theorem trim_size (s : ByteArray) : (trimBA s).size ≤ s.size := trimBA_len s
theorem toList_iff (s t : ByteArray) : s.toList = t.toList ↔ s = t := by
  constructor
  · intro h
    rw [Lib.toList_data, Lib.toList_data] at h
    exact ByteArray.ext (Array.toList_inj.1 h)
  · rintro rfl; rfl
theorem beq_toList (s t : ByteArray) : (s.toList == t.toList) = decide (s = t) := by
  by_cases h : s = t
  · subst h; simp
  · have : ¬ s.toList = t.toList := fun e => h ((toList_iff _ _).1 e)
    simp [h, this]
theorem foldEq_iff (s t : ByteArray) : foldEq s t = true ↔ lowBA s = lowBA t := by
  unfold foldEq
  rw [beq_toList]
  simp
/-- A list of headers at an index. -/
theorem rd_hdr (l : List S35) (i : Nat) (h : i < l.length) : rd_T35 l (i : Int) = l[i] := by simp [rd_T35, List.getD_eq_getElem?_getD, List.getElem?_eq_getElem h]
theorem rd_str (l : List ByteArray) (i : Nat) (h : i < l.length) : rdOf ByteArray.empty l (i : Int) = l[i] := by simp [rdOf, List.getD_eq_getElem?_getD, List.getElem?_eq_getElem h]
end Go.Proofs.YtciigmlibnpeeaaGreatDoor.Pl
/- Heads of few and short lines; a name's values; all of them together. -/
namespace Go.Proofs.YtciigmlibnpeeaaGreatDoor.Pl
set_option linter.unusedVariables false
set_option linter.unusedSimpArgs false
open Go.RowKit Go.Proofs.YtciigmlibnpeeaaGreatDoor.Q Go.Proofs.YtciigmlibnpeeaaGreatDoorW.PrintWords Go.Proofs.YtciigmlibnpeeaaGreatDoorW.PrintLast
/-- A head that both answers can bear: at most so many lines, of at most so many bytes. -/
def Small (l : List S35) (n m : Nat) : Prop := l.length ≤ n ∧ ∀ h ∈ l, h.f0.size ≤ 281474976710656 ∧ h.f1.size ≤ m
theorem hdrsB_small {l : List S35} {n m : Nat} (h : Small l n m) (hn : n ≤ 4398046511000) (hm : m ≤ 281474976710656) (name : ByteArray) (hz : name.size ≤ 281474976710656) : hdrsB l name = true := by
  unfold hdrsB
  simp only [Bool.and_eq_true, decide_eq_true_eq, List.all_eq_true]
  refine ⟨⟨hz, Nat.le_trans h.1 hn⟩, fun x hx => ⟨(h.2 x hx).1, Nat.le_trans (h.2 x hx).2 hm⟩⟩
theorem vals_mem {l : List S35} {name v : ByteArray} (h : v ∈ valsOf l name) : ∃ x ∈ l, v = trimBA x.f1 := by
  unfold valsOf at h
  obtain ⟨x, hx, rfl⟩ := List.mem_map.1 h
  exact ⟨x, (List.mem_filter.1 hx).1, rfl⟩
theorem vals_small {l : List S35} {n m : Nat} (h : Small l n m) (name v : ByteArray) (hv : v ∈ valsOf l name) : v.size ≤ m := by
  obtain ⟨x, hx, rfl⟩ := vals_mem hv
  exact Nat.le_trans (trim_size _) (h.2 x hx).2
theorem values_f {l : List S35} {n m : Nat} (h : Small l n m) (hn : n ≤ 4398046511000) (hm : m ≤ 281474976710656) (name : ByteArray) (hz : name.size ≤ 281474976710656) : headers_Values.f l name = some (valsOf l name) := if_pos (hdrsB_small h hn hm name hz)
theorem inter_cons (sep a b : List UInt8) (l : List (List UInt8)) : sep.intercalate (a :: b :: l) = a ++ sep ++ sep.intercalate (b :: l) := by
  simp [List.intercalate, List.intersperse]
theorem inter_one (sep a : List UInt8) : sep.intercalate [a] = a := by
  simp [List.intercalate, List.intersperse]
theorem inter_snoc (sep x : List UInt8) : ∀ l : List (List UInt8), l ≠ [] → sep.intercalate (l ++ [x]) = sep.intercalate l ++ sep ++ x
  | [], h => absurd rfl h
  | [a], _ => by
    show sep.intercalate [a, x] = _
    rw [inter_cons, inter_one, inter_one]
  | a :: b :: l, _ => by
    show sep.intercalate (a :: b :: (l ++ [x])) = _
    rw [inter_cons, inter_cons]
    have := inter_snoc sep x (b :: l) (by simp)
    rw [List.cons_append] at this
    rw [this]
    simp
theorem ba_append (s t : ByteArray) : (s ++ t).data.toList = s.data.toList ++ t.data.toList := by simp
theorem join_snoc (l : List ByteArray) (x sep : ByteArray) : joinBA (l ++ [x]) sep = if l = [] then x else (joinBA l sep ++ sep) ++ x := by
  apply ByteArray.ext
  apply Array.toList_inj.1
  split
  · rename_i h
    subst h
    unfold joinBA Lib.join
    simp only [List.nil_append, List.map_cons, List.map_nil]
    rw [inter_one]
  · rename_i h
    rw [ba_append, ba_append]
    unfold joinBA Lib.join
    simp only [List.map_append, List.map_cons, List.map_nil]
    rw [inter_snoc _ _ _ (by simpa using h)]
theorem join_size (l : List ByteArray) (sep : ByteArray) (m : Nat) (h : ∀ x ∈ l, x.size ≤ m) : (joinBA l sep).size ≤ l.length * (m + sep.size) := by
  suffices hh : ∀ r : List ByteArray, (∀ x ∈ r, x.size ≤ m) → (joinBA r.reverse sep).size ≤ r.length * (m + sep.size) by
    have := hh l.reverse (by simpa using h)
    rwa [List.reverse_reverse, List.length_reverse] at this
  intro r
  induction r with
  | nil => intro _; exact Nat.zero_le _
  | cons x r ih =>
    intro hr
    have h1 := ih (fun y hy => hr y (List.mem_cons_of_mem _ hy))
    have h2 := hr x List.mem_cons_self
    rw [List.reverse_cons, join_snoc, List.length_cons, Nat.succ_mul]
    split
    · omega
    · simp only [ByteArray.size_append]
      omega
def comSp : ByteArray := ⟨#[44, 32]⟩
theorem combined_f {l : List S35} {n m : Nat} (h : Small l n m) (hn : n ≤ 1000000) (hm : m ≤ 1000000) (name : ByteArray) (hz : name.size ≤ 281474976710656) :
    headers_Combined.f l name = some (joinBA (valsOf l name) comSp, decide (((valsOf l name).length : Int) > 0)) := by
  unfold headers_Combined.f
  rw [values_f h (by omega) (by omega) name hz]
  simp only [Option.bind_some]
  have h1 := join_size (valsOf l name) comSp m (fun x hx => vals_small h name x hx)
  have h2 := valsOf_len l name
  have h3 := h.1
  have h4 : (valsOf l name).length * (m + comSp.size) ≤ 1000000 * 1000002 := Nat.mul_le_mul (by omega) (by show m + 2 ≤ 1000002; omega)
  have h5 : strings_Join.f (valsOf l name) (⟨#[44, 32]⟩ : ByteArray) = some (joinBA (valsOf l name) comSp) := if_pos ⟨by show (joinBA (valsOf l name) comSp).size ≤ 140737488355328; omega, by omega⟩
  rw [h5]
  rfl
end Go.Proofs.YtciigmlibnpeeaaGreatDoor.Pl
/- Chapter 8: a field's word, out of a head; heads of the same lines of a name; what is but reported. -/
namespace Go.Proofs.YtciigmlibnpeeaaGreatDoor.Pl
set_option linter.unusedVariables false
set_option linter.unusedSimpArgs false
open Go.RowKit Go.Proofs.YtciigmlibnpeeaaGreatDoor.Q Go.Proofs.YtciigmlibnpeeaaGreatDoor.Sf Go.Proofs.YtciigmlibnpeeaaGreatDoorW.PrintWords Go.Proofs.YtciigmlibnpeeaaGreatDoorW.PrintLast
theorem parse_all (s : ByteArray) (h : s.size ≤ 2199023255552) : ∃ y, sfitem_Parse.f s = some y := by
  unfold sfitem_Parse.f strings_Trim.f
  rw [if_pos ⟨rfl, by omega⟩]
  simp only [Option.bind_some]
  have hz : (trimSp s).size ≤ s.size := by
    have : L (trimSp s) = Lib.trimB (L s) 32 := by unfold trimSp L; simp
    rw [size_L, size_L, this]; exact trim_len _
  unfold sfitem_Next.f
  rw [if_pos (by omega)]
  cases rdNext (trimSp s) with
  | none => exact ⟨_, rfl⟩
  | some x =>
    obtain ⟨v, l, t⟩ := x
    simp only [Option.bind_some]
    rw [if_pos trivial]
    split
    · split
      · exact ⟨_, rfl⟩
      · exact ⟨_, rfl⟩
    · exact ⟨_, rfl⟩
theorem pt_cnt {u : List UInt8} {l l1 : List S61} (h : PT u l l1) : l1.length ≤ l.length + u.length := by
  induction h with
  | nil => simp
  | flag b k u l l1 hb hk h ih =>
    have := withP_len (B k) l ⟨B k, 6, 1, ⟨#[]⟩⟩
    simp only [List.length_cons, List.length_append]; omega
  | val b k w u n i t l l1 hb hk hv h ih =>
    have := withP_len (B k) l ⟨B k, n, i, B t⟩
    simp only [List.length_cons, List.length_append]; omega
theorem vt_tok {u : List UInt8} {n i : Int} {t : List UInt8} (h : VT u n i t) (hn : n = 4) : t = u := by
  cases h <;> first | rfl | cases hn
theorem read_size {s : ByteArray} {i : Int} {t : ByteArray} {ps : List S61} (h : sfitem_Parse.f s = some (4, i, t, ps, 0)) : t.size ≤ 4000 ∧ ps.length ≤ 4000 := by
  obtain ⟨u, ⟨a, b, rfl, hv, hp⟩, h2, h3⟩ := parse_inv h
  have h4 := vt_tok hv rfl
  have h5 := pt_cnt hp
  rw [List.length_append] at h2
  rw [size_L, h4]
  simp only [List.length_nil] at h5
  exact ⟨by omega, by omega⟩
theorem readF_some {l : List S35} (h : Small l 1000 5000) (name : ByteArray) (hz : name.size ≤ 281474976710656) :
    ∃ p q, readF l name = some (p, q) ∧ p.size ≤ 4000 := by
  have hj := join_size (valsOf l name) comSp 5000 (fun x hx => vals_small h name x hx)
  have hl := valsOf_len l name
  have h1 := h.1
  have hb : (valsOf l name).length * (5000 + comSp.size) ≤ 1000 * 5002 := Nat.mul_le_mul (by omega) (Nat.le_refl _)
  obtain ⟨⟨kd, iv, tx, ps, e⟩, hp⟩ := parse_all (joinBA (valsOf l name) comSp) (by omega)
  unfold readF
  rw [combined_f h (by omega) (by omega) name hz]
  simp only [Option.bind_some]
  rw [hp]
  simp only [Option.bind_some]
  split
  · rename_i hc
    obtain ⟨-, h0, h4⟩ := hc
    subst h0 h4
    obtain ⟨z1, z2⟩ := read_size hp
    rw [if_pos (by omega)]
    exact ⟨_, _, rfl, z1⟩
  · exact ⟨_, _, rfl, by decide⟩
/-- What a field tells: its word, and where its reports go. -/
def wordOf (l : List S35) (name : ByteArray) : ByteArray × ByteArray := match readF l name with | some p => p | none => (⟨#[]⟩, ⟨#[]⟩)
theorem readF_word {l : List S35} (h : Small l 1000 5000) (name : ByteArray) (hz : name.size ≤ 281474976710656) : readF l name = some (wordOf l name) ∧ (wordOf l name).1.size ≤ 4000 := by
  obtain ⟨p, q, e, hp⟩ := readF_some h name hz
  unfold wordOf
  rw [e]
  exact ⟨rfl, hp⟩
def embV (w : ByteArray) : Int := twoOf kReq kCred w
def opnV (w : ByteArray) : Int := twoOf kSame kPop w
theorem coep_f {l : List S35} (h : Small l 1000 5000) : coop_Coep.f l true = some (embV (wordOf l nCoep).1, (wordOf l nCoep).2, embV (wordOf l nCoepR).1, (wordOf l nCoepR).2) := by
  obtain ⟨e1, z1⟩ := readF_word h nCoep (by decide)
  obtain ⟨e2, z2⟩ := readF_word h nCoepR (by decide)
  unfold coop_Coep.f
  rw [if_pos rfl, e1, e2]
  simp only [Option.bind_some]
  rw [if_pos ⟨by omega, by omega⟩]
  rfl
theorem coop_f {l : List S35} (h : Small l 1000 5000) : coop_Coop.f l true = some (plusF (opnV (wordOf l nCoop).1) (isoF (embV (wordOf l nCoep).1)), (wordOf l nCoop).2, plusF (opnV (wordOf l nCoopR).1) (isoF (embV (wordOf l nCoep).1) || isoF (embV (wordOf l nCoepR).1)), (wordOf l nCoopR).2) := by
  obtain ⟨e1, z1⟩ := readF_word h nCoop (by decide)
  obtain ⟨e2, z2⟩ := readF_word h nCoopR (by decide)
  unfold coop_Coop.f
  rw [if_pos rfl, coep_f h, e1, e2]
  simp only [Option.bind_some]
  rw [if_pos ⟨by omega, by omega⟩]
  rfl
theorem coep_off (l : List S35) : coop_Coep.f l false = some (0, ⟨#[]⟩, 0, ⟨#[]⟩) := by
  unfold coop_Coep.f; rw [if_neg (by decide)]
theorem coop_off (l : List S35) : coop_Coop.f l false = some (0, ⟨#[]⟩, 0, ⟨#[]⟩) := by
  unfold coop_Coop.f; rw [if_neg (by decide)]
theorem fold_f (s t : ByteArray) (hs : s.size ≤ 281474976710656) (ht : t.size ≤ 281474976710656) : octet_Fold.f s t = some (foldEq s t) := by
  unfold octet_Fold.f
  rw [lower_f s hs, lower_f t ht]
  rfl
/-- The lines that are not but reported. -/
def plainQ (h : S35) : Bool := !foldEq h.f0 nCoopR && !foldEq h.f0 nCoepR
theorem plain_l0 (l : List S35) (h : Small l 1000 5000) : ∀ (d i : Nat) (x : List S35), l.length - i = d → i ≤ l.length → x.length ≤ i → Evn (fun k => coop_Plain.l0 k x l (l.length : Int) (i : Int)) (x ++ (l.drop i).filter plainQ) := by
  have h1 := h.1
  intro d
  induction d with
  | zero =>
    intro i x hd hi hx
    obtain rfl : i = l.length := by omega
    refine Evn.succ ?_
    simp only [coop_Plain.l0]
    refine Evn.iff_neg (by omega) ?_
    rw [List.drop_length]
    simpa using Evn.some _
  | succ d ih =>
    intro i x hd hi hx
    have hlt : i < l.length := by omega
    have hz := (h.2 l[i] (List.getElem_mem hlt)).1
    refine Evn.succ ?_
    simp only [coop_Plain.l0]
    refine Evn.iff_pos (by omega) (Evn.iff_pos (by omega) (Evn.iff_pos (by omega) ?_))
    rw [rd_hdr l i hlt, List.drop_eq_getElem_cons hlt, List.filter_cons]
    generalize l[i] = h at *
    have ew : wrap64 ((i : Int) + 1) = ((i + 1 : Nat) : Int) := by rw [wr64 (by omega) (by omega)]; omega
    rw [ew]
    refine Evn.bind (Evn.ret (fold_f h.f0 nCoopR hz (by decide))) ?_
    cases e1 : foldEq h.f0 nCoopR with
    | true =>
      have : plainQ h = false := by unfold plainQ; rw [e1]; rfl
      rw [this]
      refine Evn.iff_pos rfl ?_
      exact ih (i + 1) x (by omega) (by omega) (by omega)
    | false =>
      refine Evn.iff_neg (by decide) ?_
      refine Evn.bind (Evn.ret (fold_f h.f0 nCoepR hz (by decide))) ?_
      cases e2 : foldEq h.f0 nCoepR with
      | true =>
        have : plainQ h = false := by unfold plainQ; rw [e1, e2]; rfl
        rw [this]
        refine Evn.iff_pos rfl ?_
        exact ih (i + 1) x (by omega) (by omega) (by omega)
      | false =>
        have : plainQ h = true := by unfold plainQ; rw [e1, e2]; rfl
        rw [this]
        refine Evn.iff_neg (by decide) (Evn.iff_pos (by omega) ?_)
        have := ih (i + 1) (x ++ [h]) (by omega) (by omega) (by rw [List.length_append]; simp; omega)
        simpa using this
theorem plain_f {l : List S35} (h : Small l 1000 5000) : Evn (fun k => coop_Plain.f k l) (l.filter plainQ) := by
  unfold coop_Plain.f
  have := plain_l0 l h _ 0 [] rfl (by omega) (by simp)
  simpa using this
theorem small_filter {l : List S35} {n m : Nat} (h : Small l n m) (p : S35 → Bool) : Small (l.filter p) n m :=
  ⟨Nat.le_trans (List.length_filter_le _ _) h.1, fun x hx => h.2 x (List.mem_filter.1 hx).1⟩
/-- What the statements let in. -/
def few8 (h : S35) : Bool := decide (h.f0.size ≤ 200) && decide (h.f1.size ≤ 4000)
theorem few8_l0 (l : List S35) (hl : l.length ≤ 1000) : ∀ (d i : Nat), l.length - i = d → i ≤ l.length → Evn (fun k => glacislaw08_Few.l0 k l (i : Int)) ((l.drop i).all few8) := by
  intro d
  induction d with
  | zero =>
    intro i hd hi
    obtain rfl : i = l.length := by omega
    refine Evn.succ ?_
    simp only [glacislaw08_Few.l0]
    refine Evn.iff_neg (by omega) ?_
    rw [List.drop_length]
    exact Evn.some _
  | succ d ih =>
    intro i hd hi
    have hlt : i < l.length := by omega
    refine Evn.succ ?_
    simp only [glacislaw08_Few.l0]
    refine Evn.iff_pos (by omega) (Evn.iff_pos (by omega) ?_)
    rw [rd_hdr l i hlt, List.drop_eq_getElem_cons hlt, List.all_cons]
    generalize l[i] = h
    unfold few8
    by_cases h0 : h.f0.size ≤ 200
    · refine Evn.iff_neg (by omega) ?_
      by_cases h1 : h.f1.size ≤ 4000
      · refine Evn.iff_neg (by omega) ?_
        rw [wr64 (by omega) (by omega), show ((i : Int) + 1) = ((i + 1 : Nat) : Int) by omega]
        simp only [h0, h1, decide_true, Bool.and_true, Bool.true_and]
        exact ih (i + 1) (by omega) (by omega)
      · refine Evn.iff_pos (by omega) ?_
        simp only [h0, h1, decide_true, decide_false, Bool.and_false, Bool.false_and]
        exact Evn.some _
    · refine Evn.iff_pos (by omega) ?_
      simp only [h0, decide_false, Bool.false_and]
      exact Evn.some _
def few8s (l : List S35) : Bool := decide (l.length ≤ 100) && l.all few8
theorem few8_f (l : List S35) : Evn (fun k => glacislaw08_Few.f k l) (few8s l) := by
  unfold glacislaw08_Few.f few8s
  by_cases h : l.length ≤ 100
  · refine Evn.iff_neg (by omega) ?_
    simp only [h, decide_true, Bool.true_and]
    exact few8_l0 l (by omega) _ 0 rfl (by omega)
  · refine Evn.iff_pos (by omega) ?_
    simp only [h, decide_false, Bool.false_and]
    exact Evn.some _
theorem small_few8 {l : List S35} (h : few8s l = true) : Small l 100 4000 := by
  unfold few8s few8 at h
  simp [List.all_eq_true] at h
  exact ⟨h.1, fun x hx => ⟨by have := (h.2 x hx).1; omega, (h.2 x hx).2⟩⟩
theorem small_up {l : List S35} {n m n' m' : Nat} (h : Small l n m) (hn : n ≤ n') (hm : m ≤ m') : Small l n' m' :=
  ⟨Nat.le_trans h.1 hn, fun x hx => ⟨(h.2 x hx).1, Nat.le_trans (h.2 x hx).2 hm⟩⟩
end Go.Proofs.YtciigmlibnpeeaaGreatDoor.Pl
/- Chapter 8: the calls whose answers the document fixes. -/
namespace Go.Proofs.YtciigmlibnpeeaaGreatDoor.Pl
set_option linter.unusedVariables false
set_option linter.unusedSimpArgs false
open Go.RowKit Go.Proofs.YtciigmlibnpeeaaGreatDoor.Q Go.Proofs.YtciigmlibnpeeaaGreatDoor.Sf Go.Proofs.YtciigmlibnpeeaaGreatDoorW.PrintWords Go.Proofs.YtciigmlibnpeeaaGreatDoorW.PrintLast
def la8 : List S35 := [⟨⟨#[67, 114, 111, 115, 115, 45, 79, 114, 105, 103, 105, 110, 45, 79, 112, 101, 110, 101, 114, 45, 80, 111, 108, 105, 99, 121]⟩, ⟨#[115, 97, 109, 101, 45, 111, 114, 105, 103, 105, 110, 59, 32, 114, 101, 112, 111, 114, 116, 45, 116, 111, 61, 34, 97, 34]⟩⟩, ⟨⟨#[99, 114, 111, 115, 115, 45, 111, 114, 105, 103, 105, 110, 45, 101, 109, 98, 101, 100, 100, 101, 114, 45, 112, 111, 108, 105, 99, 121]⟩, ⟨#[114, 101, 113, 117, 105, 114, 101, 45, 99, 111, 114, 112]⟩⟩]
def lb8 : List S35 := [⟨⟨#[99, 114, 111, 115, 115, 45, 111, 114, 105, 103, 105, 110, 45, 111, 112, 101, 110, 101, 114, 45, 112, 111, 108, 105, 99, 121]⟩, ⟨#[83, 97, 109, 101, 45, 79, 114, 105, 103, 105, 110]⟩⟩]
set_option maxRecDepth 100000 in
theorem aw8a : coop_Coop.f la8 true = some (3, ⟨#[97]⟩, 0, ⟨#[]⟩) := by kernel_rfl
set_option maxRecDepth 100000 in
theorem aw8b : coop_Coep.f la8 true = some (2, ⟨#[]⟩, 0, ⟨#[]⟩) := by kernel_rfl
set_option maxRecDepth 100000 in
theorem aw8c : coop_Coop.f lb8 true = some (0, ⟨#[]⟩, 0, ⟨#[]⟩) := by kernel_rfl
theorem la8_small : Small la8 1000 5000 := by
  refine ⟨by decide, fun x hx => ?_⟩
  unfold la8 at hx
  rcases List.mem_cons.1 hx with rfl | hx
  · exact ⟨by decide, by decide⟩
  · obtain rfl := List.mem_singleton.1 hx
    exact ⟨by decide, by decide⟩
theorem la8_plain : ((la8.filter plainQ).length : Int) == 2 := by decide +kernel
theorem nil_list : (⟨#[]⟩ : ByteArray).toList = ([] : List UInt8) := by rw [Lib.toList_data]
theorem a_list : (⟨#[97]⟩ : ByteArray).toList = ([97] : List UInt8) := by rw [Lib.toList_data]
theorem awake8 : Evn (fun k => glacislaw08_awake.f k) true := by
  unfold glacislaw08_awake.f
  refine Evn.bind (a := la8) (Evn.ret rfl) ?_
  refine Evn.bind (Evn.ret aw8a) ?_
  refine Evn.bind (Evn.ret aw8b) ?_
  refine Evn.bind (Evn.ret aw8c) ?_
  refine Evn.iff_pos (by rw [nil_list, a_list]; rfl) ?_
  refine Evn.iff_pos (by rw [nil_list]; rfl) ?_
  refine Evn.iff_pos (by rw [nil_list]; rfl) ?_
  refine Evn.bind (Evn.ret (coop_off la8)) ?_
  refine Evn.iff_pos (by rw [nil_list]; rfl) ?_
  refine Evn.bind (Evn.ret (show coop_Isolates.f 1 = some true from rfl)) ?_
  refine Evn.iff_pos rfl ?_
  refine Evn.bind (plain_f la8_small) ?_
  exact Evn.ret (by rw [la8_plain])
end Go.Proofs.YtciigmlibnpeeaaGreatDoor.Pl
/- The document's own trimming, and words, parts, texts, come to what the program's functions give. -/
namespace Go.Proofs.YtciigmlibnpeeaaGreatDoor.Pl
set_option linter.unusedVariables false
set_option linter.unusedSimpArgs false
open Go.RowKit Go.Proofs.YtciigmlibnpeeaaGreatDoor.Q Go.Proofs.YtciigmlibnpeeaaGreatDoorW.PrintWords Go.Proofs.YtciigmlibnpeeaaGreatDoorW.PrintLast
def blk (c : Int) : Bool := c == 9 || c == 10 || c == 12 || c == 13 || c == 32
theorem blank_f (c : Int) : glacisref01_Blank.f c = some (blk c) := by
  unfold glacisref01_Blank.f blk
  by_cases h1 : c = 9
  · subst h1; rfl
  by_cases h2 : c = 10
  · subst h2; rfl
  by_cases h3 : c = 12
  · subst h3; rfl
  by_cases h4 : c = 13
  · subst h4; rfl
  simp [h1, h2, h3, h4]
theorem at_bt (s : ByteArray) (i : Nat) (h : i < s.size) : s.data.toList[i]? = some (UInt8.ofNat (bt s i).toNat) := by
  have hl : i < s.data.toList.length := by rw [data_length]; exact h
  rw [List.getElem?_eq_getElem hl]
  congr 1
  rw [bt_nat, List.getD_eq_getElem?_getD, List.getElem?_eq_getElem hl]
  simp
theorem set_blk : ∀ n : Nat, n < 256 → ([9, 10, 12, 13, 32] : List UInt8).contains (UInt8.ofNat n) = blk (n : Int) := by decide +kernel
theorem set_bt (s : ByteArray) (i : Nat) (h : i < s.size) (b : UInt8) (hb : s.data.toList[i]? = some b) : ([9, 10, 12, 13, 32] : List UInt8).contains b = blk (bt s i) := by
  rw [at_bt s i h] at hb
  obtain rfl := Option.some.inj hb
  obtain ⟨h0, h1⟩ := bt_range s i
  rw [set_blk _ (by omega)]
  congr 1
  omega
/-- Where trimming ends: the first and last bytes that are no blanks. -/
theorem trim_at (s : ByteArray) (a b : Nat) (hab : a ≤ b) (hb : b ≤ s.size) (h1 : ∀ j, j < a → blk (bt s j) = true) (h2 : ∀ j, b ≤ j → j < s.size → blk (bt s j) = true)
    (h3 : a < b → blk (bt s a) = false) (h4 : a < b → blk (bt s ((b - 1 : Nat) : Int)) = false) : s.extract a b = trimBA s := by
  have hl : s.data.toList.length = s.size := data_length s
  rw [Lib.extract_eq]
  unfold trimBA Lib.trimS
  congr 2
  rcases Nat.lt_or_ge a b with h | h
  · rw [Lib.trimRightS_take s.data.toList _ b (by omega) (fun j x hj hx => ?_) (fun x h0 hx => ?_)]
    · rw [Lib.trimLeftS_drop _ _ a (by rw [List.length_take]; omega) (fun j x hj hx => ?_) (fun x hx => ?_)]
      · rw [List.drop_take]
      · rw [List.getElem?_take_of_lt (by omega)] at hx
        rw [set_bt s j (by omega) x hx]; exact h1 j hj
      · rw [List.getElem?_take_of_lt (by omega)] at hx
        rw [set_bt s a (by omega) x hx]; exact h3 h
    · have hjs : j < s.size := by
        rcases Nat.lt_or_ge j s.size with h' | h'
        · exact h'
        · rw [List.getElem?_eq_none (by omega)] at hx; cases hx
      rw [set_bt s j hjs x hx]; exact h2 j hj hjs
    · rw [set_bt s (b - 1) (by omega) x hx]; exact h4 h
  · have hall : ∀ j, j < s.size → blk (bt s j) = true := fun j hj => by
      rcases Nat.lt_or_ge j a with h' | h'
      · exact h1 j h'
      · exact h2 j (by omega) hj
    rw [Lib.trimRightS_take s.data.toList _ 0 (by omega) (fun j x hj hx => ?_) (fun x h0 hx => by omega)]
    · rw [show b - a = 0 by omega]
      simp [Lib.trimLeftS]
    · have hjs : j < s.size := by
        rcases Nat.lt_or_ge j s.size with h' | h'
        · exact h'
        · rw [List.getElem?_eq_none (by omega)] at hx; cases hx
      rw [set_bt s j hjs x hx]; exact hall j hjs
theorem ref_trim_l1 (s : ByteArray) (hs : s.size ≤ 281474976710656) : ∀ (d a b : Nat), b - a = d → a ≤ b → b ≤ s.size → (∀ j : Nat, j < a → blk (bt s j) = true) → (∀ j : Nat, b ≤ j → j < s.size → blk (bt s j) = true) →
    (a < s.size → blk (bt s a) = false) → Evn (fun k => glacisref01_Trim.l1 k s a b) (trimBA s) := by
  intro d
  induction d with
  | zero =>
    intro a b hd hab hb h1 h2 h3
    refine Evn.succ ?_
    simp only [glacisref01_Trim.l1]
    refine Evn.iff_neg (by omega) (Evn.iff_pos (by omega) (Evn.iff_pos (by omega) (Evn.iff_pos (by omega) (Evn.ret ?_))))
    congr 1
    exact trim_at s a b hab hb h1 h2 (fun h => by omega) (fun h => by omega)
  | succ d ih =>
    intro a b hd hab hb h1 h2 h3
    refine Evn.succ ?_
    simp only [glacisref01_Trim.l1]
    have e : wrap64 ((b : Int) - 1) = ((b - 1 : Nat) : Int) := by rw [wr64 (by omega) (by omega)]; omega
    rw [e]
    refine Evn.iff_pos (by omega) (Evn.iff_pos (by omega) (Evn.iff_pos (by omega) (Evn.bind (Evn.ret (blank_f _)) ?_)))
    by_cases hbk : blk (bt s ((b - 1 : Nat) : Int)) = true
    · rw [hbk]
      refine Evn.iff_pos rfl (ih a (b - 1) (by omega) (by omega) (by omega) h1 (fun j hj hjs => ?_) h3)
      rcases Nat.lt_or_ge j b with h | h
      · rw [show j = b - 1 by omega]; exact hbk
      · exact h2 j h hjs
    · refine Evn.iff_neg hbk (Evn.iff_pos (by omega) (Evn.iff_pos (by omega) (Evn.iff_pos (by omega) (Evn.ret ?_))))
      congr 1
      exact trim_at s a b hab hb h1 h2 (fun h => h3 (by omega)) (fun _ => by simpa using hbk)
theorem ref_trim_l0 (s : ByteArray) (hs : s.size ≤ 281474976710656) : ∀ (d a : Nat), s.size - a = d → a ≤ s.size → (∀ j : Nat, j < a → blk (bt s j) = true) →
    Evn (fun k => glacisref01_Trim.l0 k s a s.size) (trimBA s) := by
  have fin : ∀ a : Nat, a ≤ s.size → (∀ j : Nat, j < a → blk (bt s j) = true) → (a < s.size → blk (bt s a) = false) → Evn (fun k => glacisref01_Trim.j1 k s a s.size) (trimBA s) := by
    intro a ha h1 h3
    refine Evn.succ ?_
    simp only [glacisref01_Trim.j1]
    exact ref_trim_l1 s hs _ a s.size rfl ha (Nat.le_refl _) h1 (fun j h h' => by omega) h3
  intro d
  induction d with
  | zero =>
    intro a hd ha h1
    refine Evn.succ ?_
    simp only [glacisref01_Trim.l0]
    exact Evn.iff_neg (by omega) (fin a ha h1 (fun h => by omega))
  | succ d ih =>
    intro a hd ha h1
    refine Evn.succ ?_
    simp only [glacisref01_Trim.l0]
    refine Evn.iff_pos (by omega) (Evn.iff_pos (by omega) (Evn.iff_pos (by omega) (Evn.bind (Evn.ret (blank_f _)) ?_)))
    by_cases hbk : blk (bt s (a : Int)) = true
    · rw [hbk]
      refine Evn.iff_pos rfl ?_
      rw [wr64 (by omega) (by omega)]
      refine ih (a + 1) (by omega) (by omega) (fun j hj => ?_)
      rcases Nat.lt_or_ge j a with h | h
      · exact h1 j h
      · rw [show j = a by omega]; exact hbk
    · exact Evn.iff_neg hbk (fin a ha h1 (fun _ => by simpa using hbk))
theorem ref_trim (s : ByteArray) (hs : s.size ≤ 281474976710656) : Evn (fun k => glacisref01_Trim.f k s) (trimBA s) := by
  unfold glacisref01_Trim.f
  exact ref_trim_l0 s hs _ 0 rfl (Nat.zero_le _) (fun j h => by omega)
end Go.Proofs.YtciigmlibnpeeaaGreatDoor.Pl
/- The document's own making small. -/
namespace Go.Proofs.YtciigmlibnpeeaaGreatDoor.Pl
set_option linter.unusedVariables false
set_option linter.unusedSimpArgs false
open Go.RowKit Go.Proofs.YtciigmlibnpeeaaGreatDoor.Q Go.Proofs.YtciigmlibnpeeaaGreatDoorW.PrintWords Go.Proofs.YtciigmlibnpeeaaGreatDoorW.PrintLast
theorem ref_lower (s : ByteArray) (h : s.size ≤ 281474976710656) : glacisref01_Lower.f s = some (lowBA s) := if_pos h
theorem ref_fold (s t : ByteArray) (h : s.size ≤ 281474976710656) (h' : t.size ≤ 281474976710656) : glacisref01_Fold.f s t = some (foldEq s t) := by
  unfold glacisref01_Fold.f
  rw [ref_lower s h, ref_lower t h']
  rfl
end Go.Proofs.YtciigmlibnpeeaaGreatDoor.Pl
/- Heads: what the statements let in, and the document's answers. -/
namespace Go.Proofs.YtciigmlibnpeeaaGreatDoor.Pl
set_option linter.unusedVariables false
set_option linter.unusedSimpArgs false
open Go.RowKit Go.Proofs.YtciigmlibnpeeaaGreatDoor.Q Go.Proofs.YtciigmlibnpeeaaGreatDoorW.PrintWords Go.Proofs.YtciigmlibnpeeaaGreatDoorW.PrintLast
theorem ref_values_l0 (l : List S35) {n m : Nat} (h : Small l n m) (hn : n ≤ 4398046511000) (hm : m ≤ 281474976710656) (name : ByteArray) (hz : name.size ≤ 281474976710656) : ∀ (d i : Nat), l.length - i = d → i ≤ l.length →
    Evn (fun k => glacisref07_Values.l0 k l name (valsOf (l.take i) name) (i : Int)) (valsOf l name) := by
  intro d
  have hll := h.1
  induction d with
  | zero =>
    intro i hd hi
    obtain rfl : i = l.length := by omega
    refine Evn.succ ?_
    simp only [glacisref07_Values.l0]
    refine Evn.iff_neg (by omega) ?_
    rw [List.take_length]
    exact Evn.some _
  | succ d ih =>
    intro i hd hi
    have hlt : i < l.length := by omega
    have hih := ih (i + 1) (by omega) (by omega)
    rw [List.take_succ_eq_append_getElem hlt, valsOf_snoc] at hih
    refine Evn.succ ?_
    simp only [glacisref07_Values.l0]
    refine Evn.iff_pos (by omega) (Evn.iff_pos (by omega) ?_)
    rw [rd_hdr l i hlt]
    obtain ⟨h0, h1⟩ := h.2 l[i] (List.getElem_mem hlt)
    generalize l[i] = x at *
    rw [ref_fold _ _ h0 hz]
    simp only [Option.bind_some]
    by_cases hf : foldEq x.f0 name = true
    · refine Evn.iff_pos hf (Evn.bind (ref_trim x.f1 (by omega)) ?_)
      rw [if_pos hf] at hih
      have hvl := valsOf_len (l.take i) name
      rw [List.length_take] at hvl
      refine Evn.iff_pos (by omega) ?_
      rw [wr64 (by omega) (by omega), show ((i : Int) + 1) = ((i + 1 : Nat) : Int) by omega]
      exact hih
    · refine Evn.iff_neg hf ?_
      rw [if_neg hf, List.append_nil] at hih
      rw [wr64 (by omega) (by omega), show ((i : Int) + 1) = ((i + 1 : Nat) : Int) by omega]
      exact hih
theorem ref_values {l : List S35} {n m : Nat} (h : Small l n m) (hn : n ≤ 4398046511000) (hm : m ≤ 281474976710656) (name : ByteArray) (hz : name.size ≤ 281474976710656) : Evn (fun k => glacisref07_Values.f k l name) (valsOf l name) := by
  unfold glacisref07_Values.f
  exact ref_values_l0 l h hn hm name hz _ 0 rfl (by omega)
theorem ref_combined_l0 (vs : List ByteArray) (m : Nat) (hv : ∀ v ∈ vs, v.size ≤ m) (hm : m ≤ 1000000) (hl : vs.length ≤ 1000000) : ∀ (d i : Nat), vs.length - i = d → i ≤ vs.length →
    Evn (fun k => glacisref07_Combined.l0 k vs (joinBA (vs.take i) comSp) (i : Int)) (joinBA vs comSp, decide ((vs.length : Int) > 0)) := by
  intro d
  induction d with
  | zero =>
    intro i hd hi
    obtain rfl : i = vs.length := by omega
    refine Evn.succ ?_
    simp only [glacisref07_Combined.l0]
    refine Evn.iff_neg (by omega) ?_
    rw [List.take_length]
    exact Evn.some _
  | succ d ih =>
    intro i hd hi
    have hlt : i < vs.length := by omega
    have hih := ih (i + 1) (by omega) (by omega)
    rw [List.take_succ_eq_append_getElem hlt, join_snoc] at hih
    have h1 := join_size (vs.take i) comSp m (fun x hx => hv x (List.mem_of_mem_take hx))
    have h2 := hv vs[i] (List.getElem_mem hlt)
    have h4 : (vs.take i).length * (m + comSp.size) ≤ 1000000 * 1000002 := Nat.mul_le_mul (by rw [List.length_take]; omega) (by show m + 2 ≤ 1000002; omega)
    refine Evn.succ ?_
    simp only [glacisref07_Combined.l0]
    refine Evn.iff_pos (by omega) ?_
    rw [rd_str vs i hlt]
    generalize hx : vs[i] = x at *
    clear hx
    by_cases h0 : i = 0
    · subst h0
      rw [if_pos (by simp)] at hih
      refine Evn.iff_neg (by omega) (Evn.iff_pos (by omega) (Evn.iff_pos (by have e0 : (joinBA (vs.take 0) comSp).size = 0 := rfl; omega) ?_))
      rw [wr64 (by omega) (by omega), show (((0 : Nat) : Int) + 1) = ((0 + 1 : Nat) : Int) by omega]
      have e : joinBA (vs.take 0) comSp ++ x = x := by
        apply ByteArray.ext
        apply Array.toList_inj.1
        rw [ba_append]
        rfl
      rw [e]
      exact hih
    · have hne : vs.take i ≠ [] := by
        intro e
        have : (vs.take i).length = 0 := by rw [e]; rfl
        rw [List.length_take] at this
        omega
      rw [if_neg hne] at hih
      have e2 : (joinBA (vs.take i) comSp ++ (⟨#[44, 32]⟩ : ByteArray)).size = (joinBA (vs.take i) comSp).size + 2 := by rw [ByteArray.size_append]; rfl
      refine Evn.iff_pos (by omega) (Evn.iff_pos (by omega) (Evn.iff_pos (by omega) (Evn.iff_pos (by omega) ?_)))
      rw [wr64 (by omega) (by omega), show ((i : Int) + 1) = ((i + 1 : Nat) : Int) by omega]
      exact hih
theorem ref_combined {l : List S35} {n m : Nat} (h : Small l n m) (hn : n ≤ 1000000) (hm : m ≤ 1000000) (name : ByteArray) (hz : name.size ≤ 281474976710656) :
    Evn (fun k => glacisref07_Combined.f k l name) (joinBA (valsOf l name) comSp, decide (((valsOf l name).length : Int) > 0)) := by
  unfold glacisref07_Combined.f
  refine Evn.bind (ref_values h (by omega) (by omega) name hz) ?_
  have h2 := valsOf_len l name
  have h3 := h.1
  exact ref_combined_l0 _ m (fun x hx => vals_small h name x hx) hm (by omega) _ 0 rfl (by omega)
end Go.Proofs.YtciigmlibnpeeaaGreatDoor.Pl
/- Chapter 8: numbers of digits, steps of a count (of chapter 5's texts, for a seat without sfitem.Text). -/
namespace Go.Proofs.YtciigmlibnpeeaaGreatDoor.Pl
open Go.RowKit Go.Proofs.YtciigmlibnpeeaaGreatDoor.Q Go.Proofs.YtciigmlibnpeeaaGreatDoor.Sf Go.Proofs.YtciigmlibnpeeaaGreatDoorW.PrintWords Go.Proofs.YtciigmlibnpeeaaGreatDoorW.PrintLast
set_option linter.unusedVariables false
set_option linter.unusedSimpArgs false
theorem numL_fold : ∀ (b : List UInt8) (acc : Nat), b.foldl (fun a c => a * 10 + (c.toNat - 48)) acc = acc * 10 ^ b.length + numL b
  | [], acc => by simp [numL]
  | c :: b, acc => by
    have h1 := numL_fold b (acc * 10 + (c.toNat - 48))
    have h2 := numL_fold b (0 * 10 + (c.toNat - 48))
    have e : numL (c :: b) = b.foldl (fun a c => a * 10 + (c.toNat - 48)) (0 * 10 + (c.toNat - 48)) := rfl
    rw [List.foldl_cons, h1, e, h2, List.length_cons, Nat.pow_succ]
    simp only [Nat.add_mul, Nat.zero_mul, Nat.zero_add, Nat.mul_assoc, Nat.mul_comm 10 (10 ^ b.length), Nat.add_assoc]
theorem numL_app (a b : List UInt8) : numL (a ++ b) = numL a * 10 ^ b.length + numL b := by
  have : numL (a ++ b) = b.foldl (fun a c => a * 10 + (c.toNat - 48)) (numL a) := by unfold numL; rw [List.foldl_append]
  rw [this, numL_fold]
theorem wrap_next (j : Nat) (h : j ≤ 100000) : wrap64 ((j : Int) + 1) = ((j + 1 : Nat) : Int) := by
  unfold wrap64; omega
theorem take_snoc {α : Type} (l : List α) (k : Nat) (h : k < l.length) : l.take (k + 1) = l.take k ++ [l[k]] := by
  rw [List.take_add_one, List.getElem?_eq_getElem h]; rfl
theorem numL_bound (l : List UInt8) (h : ∀ c ∈ l, dgU c = true) : numL l < 10 ^ l.length := by
  have := num_bound l 0 h
  rw [Nat.zero_add, Nat.one_mul] at this
  exact this
theorem zer_len (n : Nat) (h : n ≤ 3) : (zerL n).length = 3 - n := by unfold zerL; simp
theorem L_toList (s : ByteArray) : s.toList = L s := Lib.toList_data s
theorem rd_at5 (l : List S61) (j : Nat) (h : j < l.length) : rd_T61 l (j : Int) = l[j] := by
  unfold rd_T61; simp [List.getD_eq_getElem?_getD, h]
def Dist (l : List S61) : Prop := (l.map (·.f0)).Nodup
theorem set_keys (l : List S61) (i : Nat) (p : S61) (hl : i < l.length) (hp : p.f0 = l[i].f0) : (l.set i p).map (·.f0) = l.map (·.f0) := by
  rw [List.map_set, hp]
  apply List.ext_getElem?
  intro j
  rw [List.getElem?_set]
  split
  · rename_i e; subst e; simp [hl]
  · rfl
theorem dist_with (k : ByteArray) (l : List S61) (p : S61) (hp : p.f0 = k) (h : Dist l) : Dist (withP k l p) := by
  unfold withP
  split
  · rename_i i hi
    obtain ⟨hl, h1, _⟩ := List.findIdx?_eq_some_iff_getElem.1 hi
    have hk : l[i].f0 = k := of_decide_eq_true h1
    unfold Dist at h ⊢
    rw [set_keys l i p hl (hp.trans hk.symm)]; exact h
  · rename_i hn
    unfold Dist at h ⊢
    rw [List.map_append, List.nodup_append]
    refine ⟨h, by simp, ?_⟩
    intro a ha b hb e
    obtain ⟨q, hq, rfl⟩ := List.mem_map.1 ha
    have := List.findIdx?_eq_none_iff.1 hn q hq
    have hb' : b = p.f0 := by simpa using hb
    have := of_decide_eq_false this
    exact this (e.trans (hb'.trans hp))
end Go.Proofs.YtciigmlibnpeeaaGreatDoor.Pl
/- Chapter 5: what the document's own reader gives is what the program's reader gives. -/
namespace Go.Proofs.YtciigmlibnpeeaaGreatDoor.Pr
open Go.RowKit Go.Proofs.YtciigmlibnpeeaaGreatDoor.Pl Go.Proofs.YtciigmlibnpeeaaGreatDoor.Q Go.Proofs.YtciigmlibnpeeaaGreatDoor.Sf Go.Proofs.YtciigmlibnpeeaaGreatDoorW.PrintWords Go.Proofs.YtciigmlibnpeeaaGreatDoorW.PrintLast
set_option linter.unusedVariables false
set_option linter.unusedSimpArgs false
theorem up {α : Type} {f : Nat → Option α} (hm : ∀ k, LeO (f k) (f (k + 1))) {k0 : Nat} {r : α} (h : f k0 = some r) : ∀ k, k0 ≤ k → f k = some r := by
  intro k hk
  induction k with
  | zero => obtain rfl : k0 = 0 := by omega
            exact h
  | succ k ih =>
    rcases Nat.lt_or_ge k k0 with c | c
    · obtain rfl : k0 = k + 1 := by omega
      exact h
    · exact hm k r (ih c)
theorem bt_u (s : ByteArray) (j : Nat) (h : j < s.size) : ∃ c : UInt8, bt s (j : Int) = (c.toNat : Int) := by
  have hl : j < s.data.toList.length := by rw [← Lib.size_eq]; exact h
  exact ⟨_, bt_list s j hl⟩
theorem letter_u (c : UInt8) : glacisref01_Letter.f c.toNat = some (leP c.toNat) :=
  of_decide_eq_true (allU (fun c : UInt8 => decide (glacisref01_Letter.f c.toNat = some (leP c.toNat))) (by decide +kernel) c)
theorem digit_u (c : UInt8) : glacisref01_Digit.f c.toNat = some (dgP c.toNat) :=
  of_decide_eq_true (allU (fun c : UInt8 => decide (glacisref01_Digit.f c.toNat = some (dgP c.toNat))) (by decide +kernel) c)
theorem base_u (c : UInt8) : glacisref05_base.f c.toNat = some (baP c.toNat) :=
  of_decide_eq_true (allU (fun c : UInt8 => decide (glacisref05_base.f c.toNat = some (baP c.toNat))) (by decide +kernel) c)
theorem tokens_u (c : UInt8) (k : Nat) (hk : 16 ≤ k) : glacisref05_tokens.f k c.toNat = some (tokP c.toNat) := by
  have h := of_decide_eq_true (allU (fun c : UInt8 => decide (glacisref05_tokens.f 16 c.toNat = some (tokP c.toNat))) (by decide +kernel) c)
  exact up (f := fun k => glacisref05_tokens.f k c.toNat) (fun k => glacisref05_tokens.mono _ k) h k hk
theorem small_u (c : UInt8) : glacisref05_small.f c.toNat true = some (smP c.toNat || decide ((c.toNat : Int) = 42)) :=
  of_decide_eq_true (allU (fun c : UInt8 => decide (glacisref05_small.f c.toNat true = some (smP c.toNat || decide ((c.toNat : Int) = 42)))) (by decide +kernel) c)
theorem small_v (c : UInt8) : glacisref05_small.f c.toNat false = some (keP c.toNat) :=
  of_decide_eq_true (allU (fun c : UInt8 => decide (glacisref05_small.f c.toNat false = some (keP c.toNat))) (by decide +kernel) c)
theorem L_ext (s : ByteArray) (a : Nat) : L (s.extract a s.size) = (L s).drop a := by
  unfold L
  rw [Lib.extract_data, Lib.size_eq, List.take_of_length_le (by simp)]
theorem L_ext0 (s : ByteArray) (a : Nat) : L (s.extract 0 a) = (L s).take a := by
  unfold L
  rw [Lib.extract_data]; simp
theorem L_extm (s : ByteArray) (a b : Nat) : L (s.extract a b) = ((L s).drop a).take (b - a) := by
  unfold L
  rw [Lib.extract_data]
theorem bt_L (s : ByteArray) (j : Nat) (h : j < (L s).length) : bt s (j : Int) = ((L s)[j].toNat : Int) := bt_list s j h
theorem drop_cons (l : List UInt8) (n : Nat) (h : n < l.length) : l.drop n = l[n] :: l.drop (n + 1) := List.drop_eq_getElem_cons h
theorem atF_ext (s : ByteArray) (n : Nat) (c : Int) : atF (s.extract n s.size) c = decide (n < s.size ∧ bt s (n : Int) = c) := by
  by_cases h : n < s.size
  · have hl : n < (L s).length := by rw [← size_L]; exact h
    have e : L (s.extract n s.size) = (L s)[n] :: (L s).drop (n + 1) := by rw [L_ext, drop_cons _ _ hl]
    rw [atF_cons e, bt_L s n hl]
    simp [h]
  · have e : L (s.extract n s.size) = [] := by rw [L_ext]; exact List.drop_eq_nil_of_le (by rw [← size_L]; omega)
    rw [atF_nil e]
    simp [h]
theorem tl_ext (s : ByteArray) (n : Nat) : tl (s.extract n s.size) = s.extract (n + 1) s.size := by
  apply L_inj
  rw [L_tl, L_ext, L_ext]; simp
theorem drp_is (p : Int → Bool) (s : ByteArray) : drpB p s = s.extract (spanB p s) s.size := rfl
theorem tl_is (s : ByteArray) : tl s = s.extract 1 s.size := rfl
theorem bt_tl (s : ByteArray) (j : Nat) (h : j + 1 < s.size) : bt (tl s) (j : Int) = bt s ((j + 1 : Nat) : Int) := by
  have h1 : j + 1 < (L s).length := by rw [← size_L]; exact h
  have h2 : j < (L (tl s)).length := by rw [L_tl, List.length_tail]; omega
  rw [bt_L _ _ h2, bt_L _ _ h1]
  have : (L (tl s))[j] = (L s)[j + 1] := by simp [L_tl]
  rw [this]
theorem digits_l (s : ByteArray) (hs : s.size ≤ 100000) : ∀ (m x k : Nat), x + m = s.size → m < k → (∀ j : Nat, j < x → dgP (bt s j) = true) → glacisref05_digits.l0 k s (x : Int) = some (spanB dgP s : Int)
  | 0, x, k, hm, hk, hj => by
    obtain ⟨k, rfl⟩ : ∃ k', k = k' + 1 := ⟨k - 1, by omega⟩
    rw [glacisref05_digits.l0, if_neg (by omega), span_eq dgP s x (by omega) hj (fun h => by omega)]
  | m + 1, x, k, hm, hk, hj => by
    obtain ⟨k, rfl⟩ : ∃ k', k = k' + 1 := ⟨k - 1, by omega⟩
    obtain ⟨c, hc⟩ := bt_u s x (by omega)
    rw [glacisref05_digits.l0, if_pos (by omega), if_pos (by omega), hc, digit_u]
    simp only [Option.bind_some]
    by_cases hd : dgP c.toNat = true
    · rw [if_pos hd, wrap_next x (by omega)]
      refine digits_l s hs m (x + 1) k (by omega) (by omega) (fun j hjx => ?_)
      by_cases e : j = x
      · subst e; rw [hc]; exact hd
      · exact hj j (by omega)
    · rw [if_neg hd, span_eq dgP s x (by omega) hj (fun _ => by rw [hc]; exact Bool.eq_false_iff.mpr hd)]
theorem digits_f (s : ByteArray) (hs : s.size ≤ 100000) (k : Nat) (hk : s.size < k) : glacisref05_digits.f k s = some (spanB dgP s : Int) := by
  unfold glacisref05_digits.f
  exact digits_l s hs s.size 0 k (by omega) hk (fun j hj => by omega)
theorem numL_snoc (l : List UInt8) (c : UInt8) : numL (l ++ [c]) = numL l * 10 + (c.toNat - 48) := by unfold numL; rw [List.foldl_append]; rfl
theorem wrap_id (x : Int) (h : -9000000000000000000 ≤ x ∧ x ≤ 9000000000000000000) : wrap64 x = x := by unfold wrap64; omega
theorem lt_p15 {x n : Nat} (h : x < 10 ^ n) (hn : n ≤ 15) : x < 1000000000000000 := Nat.lt_of_lt_of_le h (Nat.le_trans (Nat.pow_le_pow_right (by decide) hn) (by decide))
theorem told_l (s : ByteArray) (hs : s.size ≤ 15) (hd : ∀ c ∈ L s, dgU c = true) : ∀ (m x k : Nat), x + m = s.size → m < k → glacisref05_told.l0 k s (numL ((L s).take x) : Int) (x : Int) = some (numL (L s) : Int)
  | 0, x, k, hm, hk => by
    obtain ⟨k, rfl⟩ : ∃ k', k = k' + 1 := ⟨k - 1, by omega⟩
    rw [glacisref05_told.l0, if_neg (by omega), List.take_of_length_le (by rw [← size_L]; omega)]
  | m + 1, x, k, hm, hk => by
    obtain ⟨k, rfl⟩ : ∃ k', k = k' + 1 := ⟨k - 1, by omega⟩
    have hx : x < (L s).length := by rw [← size_L]; omega
    have hc := hd _ (List.getElem_mem hx)
    have hc2 := dg_ne hc
    have e : numL ((L s).take (x + 1)) = numL ((L s).take x) * 10 + ((L s)[x].toNat - 48) := by rw [take_snoc _ _ hx, numL_snoc]
    have hb : numL ((L s).take (x + 1)) < 1000000000000000 := lt_p15 (numL_bound ((L s).take (x + 1)) (fun c hc => hd c (List.mem_of_mem_take hc))) (by rw [List.length_take, ← size_L]; omega)
    rw [glacisref05_told.l0, if_pos (by omega), if_pos (by omega), bt_L s x hx, wrap_next x (by omega)]
    obtain ⟨d, hd48⟩ : ∃ d : Nat, (L s)[x].toNat = 48 + d := ⟨(L s)[x].toNat - 48, by omega⟩
    have hd9 : d ≤ 9 := by omega
    rw [hd48, Nat.add_sub_cancel_left] at e
    rw [e] at hb
    have m1 : ((((L s)[x].toNat : Int) - 48) % 256) = (d : Int) := by rw [hd48]; omega
    generalize numL ((L s).take x) = a at *
    have m2 : wrap64 (10 * (a : Int)) = 10 * (a : Int) := wrap_id _ (by omega)
    have m3 : wrap64 (10 * (a : Int) + (d : Int)) = 10 * (a : Int) + (d : Int) := wrap_id _ (by omega)
    have e2 : wrap64 ((wrap64 (10 * (a : Int))) + ((((L s)[x].toNat : Int) - 48) % 256)) = (numL ((L s).take (x + 1)) : Int) := by
      rw [m1, m2, m3, e]; omega
    rw [e2]
    exact told_l s hs hd m (x + 1) k (by omega) (by omega)
theorem told_f (s : ByteArray) (hs : s.size ≤ 15) (hd : ∀ c ∈ L s, dgU c = true) (k : Nat) (hk : 16 ≤ k) : glacisref05_told.f k s = some (numL (L s) : Int) := by
  unfold glacisref05_told.f
  have := told_l s hs hd s.size 0 k (by omega) (by omega)
  simpa [numL] using this
/-- The document's answer, of a value that is read. -/
def refV (o : Option ((Int × Int × ByteArray) × ByteArray)) : ByteArray × Int × Int × ByteArray × ByteArray × Bool := match o with | some (v, t) => (⟨#[]⟩, v.1, v.2.1, v.2.2, t, true) | none => (⟨#[]⟩, 0, 0, ⟨#[]⟩, ⟨#[]⟩, false)
theorem refV_some (v : Int × Int × ByteArray) (t : ByteArray) : refV (some (v, t)) = (⟨#[]⟩, v.1, v.2.1, v.2.2, t, true) := rfl
def rdN (sg : Int) (s1 : ByteArray) : Option ((Int × Int × ByteArray) × ByteArray) :=
  if (takB dgP s1).size = 0 then none
    else if atF (drpB dgP s1) 46 = true then
      (if (takB dgP s1).size > 12 ∨ (takB dgP (tl (drpB dgP s1))).size = 0 ∨ (takB dgP (tl (drpB dgP s1))).size > 3 then none
      else some ((2, sg * (numV (takB dgP s1 ++ (takB dgP (tl (drpB dgP s1)) ++ zer (takB dgP (tl (drpB dgP s1))).size)) : Int), ⟨#[]⟩), drpB dgP (tl (drpB dgP s1))))
    else if (takB dgP s1).size > 15 then none else some ((1, sg * (numV (takB dgP s1) : Int), ⟨#[]⟩), drpB dgP s1)
theorem rdN_eq (s : ByteArray) : rdNumber s = rdN (sgn s) (atR s 45) := rdNumber_eq s
theorem number_j0 (s : ByteArray) (hs : s.size ≤ 100000) (sg : Int) (hsg : sg = 1 ∨ sg = -1) (k : Nat) (hk : s.size + 30 < k) : glacisref05_number.j0 k s sg = some (refV (rdN sg s)) := by
  obtain ⟨k, rfl⟩ : ∃ k', k = k' + 10 := ⟨k - 10, by omega⟩
  have hn := span_le dgP s
  have hall : ∀ c ∈ L (takB dgP s), dgU c = true := tak_all dgP s
  rw [glacisref05_number.j0, digits_f s hs _ (by omega)]
  simp only [Option.bind_some]
  unfold rdN
  rw [drp_is dgP s, tl_ext, atF_ext]
  have et : takB dgP s = s.extract 0 (spanB dgP s) := rfl
  rw [tak_size]
  by_cases h0 : spanB dgP s = 0
  · rw [if_pos (by omega), if_pos h0, glacisref05_number.j1, if_pos rfl]; rfl
  rw [if_neg (by omega), if_neg h0, glacisref05_number.j1]
  by_cases h15 : (spanB dgP s : Int) > 15
  · rw [decide_eq_true h15, if_pos rfl]
    by_cases h46 : spanB dgP s < s.size ∧ bt s (spanB dgP s) = 46
    · rw [decide_eq_true h46, if_pos rfl, if_pos (by omega)]; rfl
    · rw [decide_eq_false h46, if_neg (by decide), if_pos (by omega)]; rfl
  rw [decide_eq_false h15, if_neg (by decide)]
  have hint : glacisref05_number.j2 (k + 8) s sg (spanB dgP s) true = some (refV (some ((1, sg * (numV (takB dgP s) : Int), ⟨#[]⟩), s.extract (spanB dgP s) s.size))) := by
    have hz : (takB dgP s).size ≤ 15 := by rw [tak_size]; omega
    have hb := lt_p15 (numL_bound (L (takB dgP s)) hall) (by rw [← size_L]; exact hz)
    rw [glacisref05_number.j2, if_pos rfl, if_pos (by omega), if_pos (by omega)]
    have e1 : s.extract 0 ((spanB dgP s : Int)).toNat = takB dgP s := rfl
    rw [e1, told_f _ hz hall _ (by omega)]
    simp only [Option.bind_some]
    rw [wrap_id _ (by rcases hsg with rfl | rfl <;> omega), numV_L, refV_some]
    rfl
  by_cases h46 : spanB dgP s < s.size ∧ bt s (spanB dgP s) = 46
  · rw [decide_eq_true h46, if_pos (show true = true from rfl)]
    rw [if_neg (by omega), if_pos (by omega), if_pos (by omega), h46.2]
    have hw : wrap64 ((spanB dgP s : Int) + 1) = ((spanB dgP s + 1 : Nat) : Int) := wrap_next _ (by omega)
    rw [show ((46 : Int) != 46) = false from rfl, glacisref05_number.j2, if_neg (by decide), hw, if_pos (by omega), if_pos (by omega)]
    have e2 : s.extract (((spanB dgP s + 1 : Nat) : Int)).toNat s.size = s.extract (spanB dgP s + 1) s.size := rfl
    rw [e2]
    have hz2 : (s.extract (spanB dgP s + 1) s.size).size ≤ s.size := by rw [ByteArray.size_extract]; omega
    rw [digits_f _ (by omega) _ (by omega)]
    simp only [Option.bind_some]
    generalize hP : s.extract (spanB dgP s + 1) s.size = P at *
    have hPL : L P = (L s).drop (spanB dgP s + 1) := by rw [← hP, L_ext]
    have hPs : P.size = s.size - (spanB dgP s + 1) := by rw [← hP, ByteArray.size_extract]; omega
    have hm := span_le dgP P
    have hall2 : ∀ c ∈ L (takB dgP P), dgU c = true := tak_all dgP P
    rw [tak_size]
    by_cases hbad : spanB dgP s > 12 ∨ spanB dgP P = 0 ∨ spanB dgP P > 3
    · rw [if_pos hbad]
      have hj : ∀ b : Bool, b = true → glacisref05_number.j3 (k + 7) s sg (spanB dgP s) (spanB dgP P) b = some (refV none) := by
        intro b hb
        rw [glacisref05_number.j3, if_pos hb]; rfl
      by_cases b1 : (spanB dgP s : Int) > 12
      · rw [if_pos b1]; exact hj true rfl
      rw [if_neg b1]
      by_cases b2 : (spanB dgP P : Int) < 1
      · rw [if_pos b2]; exact hj true rfl
      rw [if_neg b2]
      exact hj _ (decide_eq_true (by omega))
    · rw [if_neg hbad, if_neg (by omega), if_neg (by omega), decide_eq_false (by omega), glacisref05_number.j3, if_neg (by decide), if_pos (by omega), if_pos (by omega), hw, if_pos (by omega)]
      have hw2 : wrap64 (((spanB dgP s + 1 : Nat) : Int) + (spanB dgP P : Int)) = ((spanB dgP s + 1 + spanB dgP P : Nat) : Int) := by unfold wrap64; omega
      rw [hw2, if_pos (by omega), if_pos (by omega)]
      have e3 : s.extract 0 ((spanB dgP s : Int)).toNat = takB dgP s := rfl
      have e4 : s.extract (((spanB dgP s + 1 : Nat) : Int)).toNat (((spanB dgP s + 1 + spanB dgP P : Nat) : Int)).toNat = takB dgP P := by
        apply L_inj
        rw [L_extm]
        have : L (takB dgP P) = (L P).take (spanB dgP P) := L_ext0 P _
        rw [this, hPL]
        congr 1
        omega
      rw [e3, e4]
      have z1 := tak_size dgP s
      have z2 := tak_size dgP P
      rw [if_pos (by omega)]
      have hz : (takB dgP s ++ takB dgP P).size ≤ 15 := by rw [ByteArray.size_append]; omega
      have hall3 : ∀ c ∈ L (takB dgP s ++ takB dgP P), dgU c = true := by
        rw [L_app]; intro c hc
        rcases List.mem_append.1 hc with hc | hc
        · exact hall c hc
        · exact hall2 c hc
      rw [told_f _ hz hall3 _ (by omega)]
      simp only [Option.bind_some]
      have hb := numL_bound (L (takB dgP s ++ takB dgP P)) hall3
      have hlen : (L (takB dgP s ++ takB dgP P)).length = spanB dgP s + spanB dgP P := by rw [← size_L, ByteArray.size_append]; omega
      have hval : numV (takB dgP s ++ (takB dgP P ++ zer (spanB dgP P))) = numL (L (takB dgP s ++ takB dgP P)) * 10 ^ (3 - spanB dgP P) := by
        have eqa : takB dgP s ++ (takB dgP P ++ zer (spanB dgP P)) = (takB dgP s ++ takB dgP P) ++ zer (spanB dgP P) := L_inj (by simp only [L_app, List.append_assoc])
        rw [eqa, numV_L, L_app, zer_L, numL_app]
        have hzl : (zerL (spanB dgP P)).length = 3 - spanB dgP P := zer_len _ (by omega)
        have hz0 : numL (zerL (spanB dgP P)) = 0 := by
          rcases (show spanB dgP P = 1 ∨ spanB dgP P = 2 ∨ spanB dgP P = 3 by omega) with e | e | e <;> rw [e] <;> rfl
        rw [hzl, hz0, Nat.add_zero]
      rw [hval, refV_some]
      have hrest : drpB dgP P = s.extract (spanB dgP s + 1 + spanB dgP P) s.size := by
        apply L_inj
        have : L (drpB dgP P) = (L P).drop (spanB dgP P) := L_ext P _
        rw [this, hPL, L_ext, List.drop_drop]
      rw [hrest]
      generalize numL (L (takB dgP s ++ takB dgP P)) = X at *
      have hX : X < 10 ^ (spanB dgP s + spanB dgP P) := by rw [← hlen]; exact hb
      have hlast : ∀ (k' : Nat) (Y : Int), glacisref05_number.l0 (k' + 1) s sg (spanB dgP s) (spanB dgP P) Y 3 = some (⟨#[]⟩, 2, wrap64 (sg * Y), ⟨#[]⟩, s.extract (spanB dgP s + 1 + spanB dgP P) s.size, true) := by
        intro k' Y
        rw [glacisref05_number.l0, if_neg (by decide), hw, hw2, if_pos (by omega), if_pos (by omega)]
        rfl
      have hle : X < 10 ^ 12 * 10 ^ spanB dgP P := by
        rw [← Nat.pow_add]
        exact Nat.lt_of_lt_of_le hX (Nat.pow_le_pow_right (by omega) (by omega))
      rcases (show spanB dgP P = 1 ∨ spanB dgP P = 2 ∨ spanB dgP P = 3 by omega) with e | e | e
      · rw [e] at hlast hle ⊢
        rw [show k + 6 = (k + 5) + 1 from rfl, show (((1 : Nat)) : Int) = 1 from rfl] at *
        rw [glacisref05_number.l0, if_pos (by decide), wrap_id (10 * (X : Int)) (by omega), show wrap64 ((1 : Int) + 1) = 2 from wrap_id _ (by omega), glacisref05_number.l0, if_pos (by decide), wrap_id (10 * (10 * (X : Int))) (by omega), show wrap64 ((2 : Int) + 1) = 3 from wrap_id _ (by omega), hlast]
        rw [wrap_id _ (by rcases hsg with rfl | rfl <;> omega)]
        congr 3
        rw [show (3 - 1 : Nat) = 2 from rfl]
        push_cast
        rcases hsg with rfl | rfl <;> simp <;> omega
      · rw [e] at hlast hle ⊢
        rw [show k + 6 = (k + 5) + 1 from rfl, show (((2 : Nat)) : Int) = 2 from rfl] at *
        rw [glacisref05_number.l0, if_pos (by decide), wrap_id (10 * (X : Int)) (by omega), show wrap64 ((2 : Int) + 1) = 3 from wrap_id _ (by omega), hlast]
        rw [wrap_id _ (by rcases hsg with rfl | rfl <;> omega)]
        congr 3
        rw [show (3 - 2 : Nat) = 1 from rfl]
        push_cast
        rcases hsg with rfl | rfl <;> simp <;> omega
      · rw [e] at hlast hle ⊢
        rw [show k + 6 = (k + 5) + 1 from rfl, show (((3 : Nat)) : Int) = 3 from rfl] at *
        rw [hlast]
        rw [wrap_id _ (by rcases hsg with rfl | rfl <;> omega)]
        congr 3
        rw [show (3 - 3 : Nat) = 0 from rfl]
        simp
  · rw [decide_eq_false h46, if_neg (show ¬ (false = true) by decide), if_neg (show ¬ (spanB dgP s > 15) by omega)]
    by_cases he : (spanB dgP s : Int) = (s.size : Int)
    · rw [if_pos he]; exact hint
    · rw [if_neg he, if_pos (by omega), if_pos (by omega)]
      have : (bt s (spanB dgP s) != 46) = true := by
        rw [bne_iff_ne]; intro e; exact h46 ⟨by omega, e⟩
      rw [this]; exact hint
theorem number_f (s : ByteArray) (hs : s.size ≤ 100000) (h0 : 0 < s.size) (k : Nat) (hk : s.size + 30 < k) : glacisref05_number.f k s = some (refV (rdNumber s)) := by
  unfold glacisref05_number.f
  rw [if_pos (by omega), rdN_eq]
  unfold sgn atR atF
  by_cases h : bt s 0 = 45
  · rw [if_pos h, if_pos (by omega), decide_eq_true (show 0 < s.size ∧ bt s 0 = 45 from ⟨h0, h⟩), if_pos rfl, if_pos rfl]
    have hz := tl_size s
    exact number_j0 (tl s) (by omega) (-1) (Or.inr rfl) k (by omega)
  · rw [if_neg h, decide_eq_false (show ¬ (0 < s.size ∧ bt s 0 = 45) from fun e => h e.2), if_neg (by decide), if_neg (by decide)]
    exact number_j0 s hs 1 (Or.inl rfl) k hk
end Go.Proofs.YtciigmlibnpeeaaGreatDoor.Pr
/- Chapter 5: the document's own reader: texts in quotes, values, keys, parameters, items. -/
namespace Go.Proofs.YtciigmlibnpeeaaGreatDoor.Pr
open Go.RowKit Go.Proofs.YtciigmlibnpeeaaGreatDoor.Pl Go.Proofs.YtciigmlibnpeeaaGreatDoor.Q Go.Proofs.YtciigmlibnpeeaaGreatDoor.Sf Go.Proofs.YtciigmlibnpeeaaGreatDoorW.PrintWords Go.Proofs.YtciigmlibnpeeaaGreatDoorW.PrintLast
set_option linter.unusedVariables false
set_option linter.unusedSimpArgs false
theorem nums_snoc (xs : List Int) (s : ByteArray) (i : Nat) (h : i < s.size) : strOfNums (xs ++ [bt s i]) = strOfNums xs ++ s.extract i (i + 1) := by
  have hl : i < (L s).length := by rw [← size_L]; exact h
  apply L_inj
  rw [bt_L s i hl, num_app xs _ _ rfl, L_app, L_extm, drop_cons _ _ hl]
  rw [show i + 1 - i = 1 by omega]; rfl
theorem ext_size (s : ByteArray) (i : Nat) (h : i < s.size) : (s.extract i (i + 1)).size = 1 := by rw [ByteArray.size_extract]; omega
theorem fits (a b : Nat) (ha : a ≤ 100000) (hb : b = 1) : a + b ≤ 9223372036854775807 := by omega
theorem qF_shut (d : Nat) (s : ByteArray) (xs : List Int) (h0 : 0 < s.size) (h : bt s 0 = 34) : qF (d + 1) s xs = some (strOfNums xs, tl s) := by
  rw [qF, if_pos h0, if_pos h]
theorem qF_nil (d : Nat) (s : ByteArray) (xs : List Int) (h0 : ¬ 0 < s.size) : qF (d + 1) s xs = none := by
  rw [qF, if_neg h0]
theorem qF_bad (d : Nat) (s : ByteArray) (xs : List Int) (h0 : 0 < s.size) (h : bt s 0 ≠ 34) (hb : bt s 0 < 32 ∨ 126 < bt s 0) : qF (d + 1) s xs = none := by
  rw [qF, if_pos h0, if_neg h, if_pos (by rcases hb with h | h; exact Or.inl h; exact Or.inr (Or.inl h))]
theorem wi_of {c : UInt8} (h : (c.toNat : Int) = 34 ∨ (c.toNat : Int) = 92) : wiP c.toNat ⟨#[34, 92]⟩ = true := by
  rw [wiQ]; exact decide_eq_true (by omega)
theorem wi_not {c : UInt8} (h : ¬ ((c.toNat : Int) = 34 ∨ (c.toNat : Int) = 92)) : ¬ wiP c.toNat ⟨#[34, 92]⟩ = true := by
  rw [wiQ]; intro e; have := of_decide_eq_true e; omega
theorem qF_esc (d : Nat) (s : ByteArray) (xs : List Int) (h0 : 0 < s.size) (h : bt s 0 = 92) (h1 : 0 < (tl s).size) (hq : bt (tl s) 0 = 34 ∨ bt (tl s) 0 = 92) : qF (d + 1) s xs = qF d (tl (tl s)) (xs ++ [bt (tl s) 0]) := by
  obtain ⟨c, hc⟩ := bt_u (tl s) 0 h1
  have hc' : bt (tl s) 0 = (c.toNat : Int) := hc
  rw [hc'] at hq
  have hw := wi_of hq
  rw [← hc'] at hw
  rw [qF, if_pos h0, if_neg (by rw [h]; decide), if_neg (by
    rintro (k | k | ⟨_, k⟩)
    · rw [h] at k; exact absurd k (by decide)
    · rw [h] at k; exact absurd k (by decide)
    · exact k ⟨h1, hw⟩), if_pos h]
theorem qF_escbad (d : Nat) (s : ByteArray) (xs : List Int) (h0 : 0 < s.size) (h : bt s 0 = 92) (hq : ¬ (0 < (tl s).size ∧ (bt (tl s) 0 = 34 ∨ bt (tl s) 0 = 92))) : qF (d + 1) s xs = none := by
  rw [qF, if_pos h0, if_neg (by rw [h]; decide), if_pos (by
    refine Or.inr (Or.inr ⟨h, fun k => ?_⟩)
    obtain ⟨c, hc⟩ := bt_u (tl s) 0 k.1
    have hc' : bt (tl s) 0 = (c.toNat : Int) := hc
    have k2 := k.2
    rw [hc'] at hq k2
    exact wi_not (fun e => hq ⟨k.1, e⟩) k2)]
theorem qF_plain (d : Nat) (s : ByteArray) (xs : List Int) (h0 : 0 < s.size) (h : bt s 0 ≠ 34) (h1 : ¬ bt s 0 < 32) (h2 : ¬ 126 < bt s 0) (h3 : bt s 0 ≠ 92) : qF (d + 1) s xs = qF d (tl s) (xs ++ [bt s 0]) := by
  rw [qF, if_pos h0, if_neg h, if_neg (by
    rintro (k | k | ⟨k, _⟩)
    · exact h1 k
    · exact h2 k
    · exact h3 k), if_neg h3]
theorem r_shut (k i : Nat) (s o : ByteArray) (hs : s.size ≤ 100000) (hi : i < s.size) (h : bt s i = 34) : glacisref05_quoted.l0 (k + 1) s o (i : Int) = some (⟨#[]⟩, 3, 0, o, s.extract (i + 1) s.size, true) := by
  rw [glacisref05_quoted.l0, if_pos (by omega), if_pos (by omega), if_pos h, wrap_next i (by omega), if_pos (by omega), if_pos (by omega)]; rfl
theorem r_nil (k i : Nat) (s o : ByteArray) (hi : ¬ i < s.size) : glacisref05_quoted.l0 (k + 1) s o (i : Int) = some (refV none) := by
  rw [glacisref05_quoted.l0, if_neg (by omega)]; rfl
theorem r_j (k i : Nat) (s o : ByteArray) (hi : i < s.size) (h : bt s i ≠ 34) : glacisref05_quoted.l0 (k + 1) s o (i : Int) = glacisref05_quoted.j1 k s o i (decide (bt s i < 32 ∨ 126 < bt s i)) := by
  rw [glacisref05_quoted.l0, if_pos (by omega), if_pos (by omega), if_neg h]
  by_cases h1 : bt s i < 32
  · rw [if_pos h1, decide_eq_true (Or.inl h1)]
  · rw [if_neg h1]
    by_cases h2 : bt s i > 126
    · rw [decide_eq_true h2, decide_eq_true (Or.inr h2)]
    · rw [decide_eq_false h2, decide_eq_false (by rintro (k | k); exact h1 k; exact h2 k)]
theorem r_bad (k i : Nat) (s o : ByteArray) (hi : i < s.size) (h : bt s i ≠ 34) (hb : bt s i < 32 ∨ 126 < bt s i) : glacisref05_quoted.l0 (k + 2) s o (i : Int) = some (refV none) := by
  rw [r_j (k + 1) i s o hi h, decide_eq_true hb, glacisref05_quoted.j1, if_pos rfl]; rfl
theorem r_plain (k i : Nat) (s o : ByteArray) (hs : s.size ≤ 100000) (hi : i < s.size) (ho : o.size ≤ 100000) (h : bt s i ≠ 34) (hb : ¬ (bt s i < 32 ∨ 126 < bt s i)) (h9 : bt s i ≠ 92) : glacisref05_quoted.l0 (k + 2) s o (i : Int) = glacisref05_quoted.l0 k s (o ++ s.extract i (i + 1)) ((i + 1 : Nat) : Int) := by
  have p1 : ((i : Int)) ≤ (((i + 1 : Nat) : Int)) := by omega
  have p2 : (((i + 1 : Nat) : Int)) ≤ (s.size : Int) := by omega
  have p3 : (0 : Int) ≤ (i : Int) := by omega
  have p4 : (i : Int) < (s.size : Int) := by omega
  have hw := wrap_next i (by omega)
  rw [r_j (k + 1) i s o hi h, decide_eq_false hb, glacisref05_quoted.j1, if_neg (by decide), if_pos p3, if_pos p4, if_neg h9, hw, if_pos p1, if_pos p2]
  simp only [Int.toNat_natCast]
  rw [if_pos (fits _ _ ho (ext_size s i hi))]
theorem r_esc (k i : Nat) (s o : ByteArray) (hs : s.size ≤ 100000) (hi : i + 1 < s.size) (ho : o.size ≤ 100000) (h9 : bt s i = 92) (hq : bt s ((i + 1 : Nat) : Int) = 34 ∨ bt s ((i + 1 : Nat) : Int) = 92) : glacisref05_quoted.l0 (k + 2) s o (i : Int) = glacisref05_quoted.l0 k s (o ++ s.extract (i + 1) (i + 1 + 1)) ((i + 1 + 1 : Nat) : Int) := by
  have p1 : (((i + 1 : Nat) : Int)) ≤ (((i + 1 + 1 : Nat) : Int)) := by omega
  have p2 : (((i + 1 + 1 : Nat) : Int)) ≤ (s.size : Int) := by omega
  have p3 : (0 : Int) ≤ (i : Int) := by omega
  have p4 : (i : Int) < (s.size : Int) := by omega
  have p5 : ¬ (((i + 1 : Nat) : Int)) = (s.size : Int) := by omega
  have p6 : (0 : Int) ≤ (((i + 1 : Nat) : Int)) := by omega
  have p7 : (((i + 1 : Nat) : Int)) < (s.size : Int) := by omega
  have hw := wrap_next i (by omega)
  have hw2 := wrap_next (i + 1) (by omega)
  rw [r_j (k + 1) i s o (by omega) (by rw [h9]; decide), decide_eq_false (by rw [h9]; decide), glacisref05_quoted.j1, if_neg (by decide), if_pos p3, if_pos p4, if_pos h9, hw, if_neg p5, if_pos p6, if_pos p7, hw2]
  rcases hq with hq | hq
  · rw [if_pos hq, if_pos p1, if_pos p2]
    simp only [Int.toNat_natCast]
    rw [if_pos (fits _ _ ho (ext_size s (i + 1) hi))]
  · rw [if_neg (by rw [hq]; decide), if_pos hq, if_pos p1, if_pos p2]
    simp only [Int.toNat_natCast]
    rw [if_pos (fits _ _ ho (ext_size s (i + 1) hi))]
theorem r_escbad (k i : Nat) (s o : ByteArray) (hs : s.size ≤ 100000) (hi : i < s.size) (h9 : bt s i = 92) (hq : ¬ (i + 1 < s.size ∧ (bt s ((i + 1 : Nat) : Int) = 34 ∨ bt s ((i + 1 : Nat) : Int) = 92))) : glacisref05_quoted.l0 (k + 2) s o (i : Int) = some (refV none) := by
  have p3 : (0 : Int) ≤ (i : Int) := by omega
  have p4 : (i : Int) < (s.size : Int) := by omega
  have hw := wrap_next i (by omega)
  rw [r_j (k + 1) i s o hi (by rw [h9]; decide), decide_eq_false (by rw [h9]; decide), glacisref05_quoted.j1, if_neg (by decide), if_pos p3, if_pos p4, if_pos h9, hw]
  by_cases he : i + 1 = s.size
  · rw [if_pos (show (((i + 1 : Nat) : Int)) = (s.size : Int) by omega)]; rfl
  · have h1 : i + 1 < s.size := by omega
    have p6 : (0 : Int) ≤ (((i + 1 : Nat) : Int)) := by omega
    have p7 : (((i + 1 : Nat) : Int)) < (s.size : Int) := by omega
    rw [if_neg (show ¬ (((i + 1 : Nat) : Int)) = (s.size : Int) by omega), if_pos p6, if_pos p7, if_neg (fun e => hq ⟨h1, Or.inl e⟩), if_neg (fun e => hq ⟨h1, Or.inr e⟩)]; rfl
theorem bt_ext (s : ByteArray) (i : Nat) (h : i < s.size) : bt (s.extract i s.size) 0 = bt s i := by
  have hl : i < (L s).length := by rw [← size_L]; exact h
  have e : L (s.extract i s.size) = (L s)[i] :: (L s).drop (i + 1) := by rw [L_ext, drop_cons _ _ hl]
  rw [bt0 e, bt_L s i hl]
theorem quoted_l (s : ByteArray) (hs : s.size ≤ 100000) : ∀ (d i k : Nat) (xs : List Int), s.size < i + d → i ≤ s.size → 2 * s.size + 2 < k + 2 * i → (strOfNums xs).size ≤ i →
    glacisref05_quoted.l0 k s (strOfNums xs) (i : Int) = some (refV ((qF d (s.extract i s.size) xs).map mkQ))
  | 0, i, k, xs, hd, hi, hk, hx => by omega
  | d + 1, i, k, xs, hd, hi, hk, hx => by
    obtain ⟨k, rfl⟩ : ∃ k', k = k' + 2 := ⟨k - 2, by omega⟩
    have hz : (s.extract i s.size).size + i = s.size := by rw [ByteArray.size_extract]; omega
    have ho : (strOfNums xs).size ≤ 100000 := Nat.le_trans hx (Nat.le_trans hi hs)
    by_cases h : i < s.size
    · have hb := bt_ext s i h
      have h0 : 0 < (s.extract i s.size).size := by omega
      by_cases c34 : bt s i = 34
      · rw [r_shut (k + 1) i s _ hs h c34, qF_shut d _ xs h0 (hb.trans c34), tl_ext]; rfl
      by_cases cb : bt s i < 32 ∨ 126 < bt s i
      · rw [r_bad k i s _ h c34 cb, qF_bad d _ xs h0 (by rw [hb]; exact c34) (by rw [hb]; exact cb)]; rfl
      by_cases c92 : bt s i = 92
      · have hz1 : (s.extract (i + 1) s.size).size + (i + 1) = s.size := by rw [ByteArray.size_extract]; omega
        by_cases hq : i + 1 < s.size ∧ (bt s ((i + 1 : Nat) : Int) = 34 ∨ bt s ((i + 1 : Nat) : Int) = 92)
        · have hb1 := bt_ext s (i + 1) hq.1
          rw [r_esc k i s _ hs hq.1 ho c92 hq.2, qF_esc d _ xs h0 (hb.trans c92) (by rw [tl_ext]; omega) (by rw [tl_ext, hb1]; exact hq.2), tl_ext, tl_ext, hb1, ← nums_snoc xs s (i + 1) hq.1]
          refine quoted_l s hs d (i + 1 + 1) k _ (by omega) (by omega) (by omega) ?_
          rw [nums_snoc xs s (i + 1) hq.1, ByteArray.size_append, ext_size s (i + 1) hq.1]; omega
        · rw [r_escbad k i s _ hs h c92 hq, qF_escbad d _ xs h0 (hb.trans c92) (by
            rw [tl_ext]
            rintro ⟨k1, k2⟩
            have h1 : i + 1 < s.size := by omega
            rw [bt_ext s (i + 1) h1] at k2
            exact hq ⟨h1, k2⟩)]
          rfl
      · rw [r_plain k i s _ hs h ho c34 cb c92, qF_plain d _ xs h0 (by rw [hb]; exact c34) (by rw [hb]; exact fun e => cb (Or.inl e)) (by rw [hb]; exact fun e => cb (Or.inr e)) (by rw [hb]; exact c92), tl_ext, hb, ← nums_snoc xs s i h]
        refine quoted_l s hs d (i + 1) k _ (by omega) (by omega) (by omega) ?_
        rw [nums_snoc xs s i h, ByteArray.size_append, ext_size s i h]; omega
    · rw [r_nil (k + 1) i s _ h, qF_nil d _ xs (by omega)]; rfl
theorem quoted_f (s : ByteArray) (hs : s.size ≤ 100000) (h0 : 0 < s.size) (k : Nat) (hk : 2 * s.size + 10 < k) : glacisref05_quoted.f k s = some (refV (rdQuoted (tl s))) := by
  unfold glacisref05_quoted.f rdQuoted
  have z := tl_lt s h0
  rw [z]
  have := quoted_l s hs s.size 1 k [] (by omega) (by omega) (by omega) (by show (0 : Nat) ≤ 1; omega)
  exact this
theorem tok_l (s : ByteArray) (hs : s.size ≤ 100000) : ∀ (m x k : Nat), x + m = s.size → m + 17 < k → (∀ j : Nat, j < x → tokP (bt s j) = true) → glacisref05_value.l0 k s (x : Int) = some (refV (some ((4, 0, takB tokP s), drpB tokP s)))
  | 0, x, k, hm, hk, hj => by
    obtain ⟨k, rfl⟩ : ∃ k', k = k' + 1 := ⟨k - 1, by omega⟩
    have e := span_eq tokP s x (by omega) hj (fun h => by omega)
    rw [glacisref05_value.l0, if_neg (by omega), if_pos (by omega), if_pos (by omega)]
    unfold takB drpB
    rw [e]; rfl
  | m + 1, x, k, hm, hk, hj => by
    obtain ⟨k, rfl⟩ : ∃ k', k = k' + 1 := ⟨k - 1, by omega⟩
    obtain ⟨c, hc⟩ := bt_u s x (by omega)
    rw [glacisref05_value.l0, if_pos (by omega), if_pos (by omega), hc, tokens_u c k (by omega)]
    simp only [Option.bind_some]
    by_cases hd : tokP c.toNat = true
    · rw [if_pos hd, wrap_next x (by omega)]
      refine tok_l s hs m (x + 1) k (by omega) (by omega) (fun j hjx => ?_)
      by_cases e : j = x
      · subst e; rw [hc]; exact hd
      · exact hj j (by omega)
    · have e := span_eq tokP s x (by omega) hj (fun _ => by rw [hc]; exact Bool.eq_false_iff.mpr hd)
      rw [if_neg hd, if_pos (by omega)]
      unfold takB drpB
      rw [e]; rfl
theorem base_l (s : ByteArray) (hs : s.size ≤ 100000) (h0 : 0 < s.size) : ∀ (m x k : Nat), x + 1 + m = s.size → m < k → (∀ j : Nat, j < x → baP (bt (tl s) j) = true) → glacisref05_value.l1 k s ((x + 1 : Nat) : Int) = some (refV (rdBytes (tl s)))
  | 0, x, k, hm, hk, hj => by
    obtain ⟨k, rfl⟩ : ∃ k', k = k' + 1 := ⟨k - 1, by omega⟩
    have hz := tl_lt s h0
    have e := span_eq baP (tl s) x (by omega) hj (fun h => by omega)
    rw [glacisref05_value.l1, if_neg (by omega), if_pos (by omega)]
    unfold rdBytes
    rw [drp_is, e, atF_ext, decide_eq_false (by omega), if_neg (by decide)]; rfl
  | m + 1, x, k, hm, hk, hj => by
    obtain ⟨k, rfl⟩ : ∃ k', k = k' + 1 := ⟨k - 1, by omega⟩
    have hz := tl_lt s h0
    have hb : bt (tl s) (x : Int) = bt s ((x + 1 : Nat) : Int) := bt_tl s x (by omega)
    obtain ⟨c, hc⟩ := bt_u s (x + 1) (by omega)
    rw [glacisref05_value.l1, if_pos (by omega), if_pos (by omega), hc, base_u c]
    simp only [Option.bind_some]
    by_cases hd : baP c.toNat = true
    · rw [if_pos hd, wrap_next _ (by omega)]
      refine base_l s hs h0 m (x + 1) k (by omega) (by omega) (fun j hjx => ?_)
      by_cases e : j = x
      · subst e; rw [hb, hc]; exact hd
      · exact hj j (by omega)
    · have e := span_eq baP (tl s) x (by omega) hj (fun _ => by rw [hb, hc]; exact Bool.eq_false_iff.mpr hd)
      rw [if_neg hd, if_neg (by omega)]
      unfold rdBytes
      rw [drp_is, e, atF_ext, hb, hc]
      by_cases h58 : (c.toNat : Int) = 58
      · rw [if_pos h58, decide_eq_true ⟨by omega, h58⟩, if_pos rfl, if_pos (by omega), if_pos (by omega), wrap_next _ (by omega), if_pos (by omega), if_pos (by omega), refV_some]
        have e1 : s.extract 1 (((x + 1 : Nat) : Int)).toNat = takB baP (tl s) := by
          apply L_inj
          unfold takB
          rw [e, L_ext0, L_tl, L_extm]
          rw [show (((x + 1 : Nat) : Int)).toNat - 1 = x by omega, List.drop_one]
        have e2 : s.extract (((x + 1 + 1 : Nat) : Int)).toNat s.size = tl ((tl s).extract x (tl s).size) := by
          rw [tl_ext]
          apply L_inj
          rw [L_ext, L_ext, L_tl, ← List.drop_one, List.drop_drop]
          congr 1
          omega
        rw [e1, e2]
      · rw [if_neg h58, decide_eq_false (fun h => h58 h.2), if_neg (by decide)]; rfl
theorem firsts (c : UInt8) : ((c.toNat : Int) = 45 ∨ dgP c.toNat = true → (c.toNat : Int) ≠ 34) ∧ (leP c.toNat = true ∨ (c.toNat : Int) = 42 → tokP c.toNat = true ∧ (c.toNat : Int) ≠ 34) := by
  have h := allU (fun c : UInt8 => (!(decide ((c.toNat : Int) = 45) || dgP c.toNat) || !decide ((c.toNat : Int) = 34)) && (!(leP c.toNat || decide ((c.toNat : Int) = 42)) || (tokP c.toNat && !decide ((c.toNat : Int) = 34)))) (by decide +kernel) c
  simp only [Bool.and_eq_true, Bool.or_eq_true, Bool.not_eq_true', Bool.or_eq_false_iff, decide_eq_false_iff_not] at h
  refine ⟨fun k => ?_, fun k => ?_⟩
  · rcases h.1 with ⟨a, b⟩ | a
    · rcases k with k | k
      · exact absurd k a
      · rw [k] at b; cases b
    · exact a
  · rcases h.2 with ⟨a, b⟩ | a
    · rcases k with k | k
      · rw [k] at a; cases a
      · exact absurd k b
    · exact a
theorem value_f (s : ByteArray) (hs : s.size ≤ 100000) (k : Nat) (hk : 2 * s.size + 100 < k) : glacisref05_value.f k s = some (refV (rdValue s)) := by
  unfold glacisref05_value.f rdValue
  by_cases h0 : 0 < s.size
  · obtain ⟨c, hc⟩ := bt_u s 0 h0
    have hne : ¬ s.toList = ([] : List UInt8) := by
      rw [L_toList]; intro e; rw [size_L, e] at h0; exact absurd h0 (by simp)
    have hc' : bt s 0 = (c.toNat : Int) := hc
    obtain ⟨f1, f2⟩ := firsts c
    rw [if_neg hne, if_pos (by omega), if_pos h0, hc', letter_u, digit_u]
    simp only [Option.bind_some]
    obtain ⟨k, rfl⟩ : ∃ k', k = k' + 3 := ⟨k - 3, by omega⟩
    have hj0 : ∀ b : Bool, b = true → (c.toNat : Int) = 45 ∨ dgP c.toNat = true → glacisref05_value.j0 (k + 3) s (leP c.toNat) b = some (refV (if (c.toNat : Int) = 45 ∨ dgP c.toNat = true then rdNumber s else if leP c.toNat = true ∨ (c.toNat : Int) = 42 then some ((4, 0, takB tokP s), drpB tokP s) else if (c.toNat : Int) = 34 then rdQuoted (tl s) else if (c.toNat : Int) = 58 then rdBytes (tl s) else if (c.toNat : Int) = 63 then rdBool (tl s) else none)) := by
      intro b hb hcn
      rw [glacisref05_value.j0, if_pos hb, number_f s hs h0 _ (by omega), if_pos hcn]
      simp only [Option.bind_some]
    by_cases c45 : (c.toNat : Int) = 45
    · rw [if_pos c45]; exact hj0 true rfl (Or.inl c45)
    rw [if_neg c45]
    by_cases cd : dgP c.toNat = true
    · exact hj0 _ cd (Or.inr cd)
    rw [if_neg (by rintro (h | h); exact c45 h; exact cd h), glacisref05_value.j0, if_neg cd, if_pos (by omega), hc']
    by_cases c34 : (c.toNat : Int) = 34
    · rw [if_pos c34, quoted_f s hs h0 _ (by omega), if_neg (fun h => (f2 h).2 c34), if_pos c34]
      simp only [Option.bind_some]
    rw [if_neg c34]
    have hj1 : ∀ b : Bool, b = true → leP c.toNat = true ∨ (c.toNat : Int) = 42 → glacisref05_value.j1 (k + 2) s b = some (refV (if leP c.toNat = true ∨ (c.toNat : Int) = 42 then some ((4, 0, takB tokP s), drpB tokP s) else if (c.toNat : Int) = 34 then rdQuoted (tl s) else if (c.toNat : Int) = 58 then rdBytes (tl s) else if (c.toNat : Int) = 63 then rdBool (tl s) else none)) := by
      intro b hb hcn
      rw [glacisref05_value.j1, if_pos hb, if_pos hcn]
      exact tok_l s hs (s.size - 1) 1 (k + 1) (by omega) (by omega) (fun j hj => by
        obtain rfl : j = 0 := by omega
        rw [hc]; exact (f2 hcn).1)
    by_cases cl : leP c.toNat = true
    · rw [if_pos cl]; exact hj1 true rfl (Or.inl cl)
    rw [if_neg cl]
    by_cases c42 : (c.toNat : Int) = 42
    · exact hj1 _ (beq_iff_eq.2 c42) (Or.inr c42)
    rw [if_neg (by rintro (h | h); exact cl h; exact c42 h), if_neg c34, glacisref05_value.j1, if_neg (by simpa using c42), if_pos (by omega), hc']
    by_cases c58 : (c.toNat : Int) = 58
    · rw [if_pos c58, if_pos c58]
      exact base_l s hs h0 (s.size - 1) 0 (k + 1) (by omega) (by omega) (fun j hj => by omega)
    rw [if_neg c58, if_neg c58]
    by_cases c63 : (c.toNat : Int) = 63
    · rw [if_pos c63, if_pos c63]
      unfold rdBool
      have hz := tl_lt s h0
      by_cases h2 : (s.size : Int) < 2
      · have e : L (tl s) = [] := by
          have : (L (tl s)).length = 0 := by rw [← size_L]; omega
          exact List.length_eq_zero_iff.1 this
        rw [if_pos h2, atF_nil e, atF_nil e, if_neg (by decide), if_neg (by decide)]; rfl
      · rw [if_neg h2, if_pos (by omega)]
        have hb : bt (tl s) 0 = bt s 1 := bt_tl s 0 (by omega)
        have a1 : ∀ n : Int, atF (tl s) n = decide (bt s 1 = n) := fun n => by
          unfold atF; rw [hb]; simp [show 0 < (tl s).size by omega]
        have er : s.extract 2 s.size = tl (tl s) := by rw [tl_is s, tl_ext]
        rw [a1, a1]
        by_cases d48 : bt s 1 = 48
        · rw [if_pos d48, if_pos (by omega), d48, er]; rfl
        rw [if_neg d48]
        by_cases d49 : bt s 1 = 49
        · rw [if_pos d49, if_pos (by omega), d49, er]; rfl
        · rw [if_neg d49, decide_eq_false d49, decide_eq_false d48, if_neg (by decide), if_neg (by decide)]; rfl
    · rw [if_neg c63, if_neg c63]; rfl
  · have he : s.toList = ([] : List UInt8) := by
      rw [L_toList]
      have : (L s).length = 0 := by rw [← size_L]; omega
      exact List.length_eq_zero_iff.1 this
    rw [if_pos he, if_neg h0]; rfl
def refK (o : Option (ByteArray × ByteArray)) : ByteArray × ByteArray × Int := match o with | some (k, t) => (k, t, 0) | none => (⟨#[]⟩, ⟨#[]⟩, 50)
theorem key_l (s : ByteArray) (hs : s.size ≤ 100000) (h0 : 0 < s.size) (hf : smP (bt s 0) = true ∨ bt s 0 = 42) : ∀ (m x k : Nat), x + 1 + m = s.size → m < k → (∀ j : Nat, j < x + 1 → keP (bt s j) = true) → glacisref05_Key.l0 k s ((x + 1 : Nat) : Int) = some (takB keP s, drpB keP s, 0)
  | 0, x, k, hm, hk, hj => by
    obtain ⟨k, rfl⟩ : ∃ k', k = k' + 1 := ⟨k - 1, by omega⟩
    have e := span_eq keP s (x + 1) (by omega) hj (fun h => by omega)
    rw [glacisref05_Key.l0, if_neg (by omega), if_neg (by omega), if_pos (by omega), if_pos (by omega)]
    unfold takB drpB
    rw [e]; rfl
  | m + 1, x, k, hm, hk, hj => by
    obtain ⟨k, rfl⟩ : ∃ k', k = k' + 1 := ⟨k - 1, by omega⟩
    obtain ⟨c, hc⟩ := bt_u s (x + 1) (by omega)
    have hb : ((((x + 1 : Nat) : Int)) == 0) = false := by rw [beq_eq_false_iff_ne]; omega
    rw [glacisref05_Key.l0, if_pos (by omega), if_pos (by omega), hc, hb, small_v c]
    simp only [Option.bind_some]
    by_cases hd : keP c.toNat = true
    · rw [if_pos hd, wrap_next _ (by omega)]
      refine key_l s hs h0 hf m (x + 1) k (by omega) (by omega) (fun j hjx => ?_)
      by_cases e : j = x + 1
      · subst e; rw [hc]; exact hd
      · exact hj j (by omega)
    · have e := span_eq keP s (x + 1) (by omega) hj (fun _ => by rw [hc]; exact Bool.eq_false_iff.mpr hd)
      rw [if_neg hd, if_neg (by omega), if_pos (by omega)]
      unfold takB drpB
      rw [e]; rfl
theorem key_f (s : ByteArray) (hs : s.size ≤ 100000) (k : Nat) (hk : s.size + 2 < k) : glacisref05_Key.f k s = some (refK (rdKey s)) := by
  unfold glacisref05_Key.f rdKey
  obtain ⟨k, rfl⟩ : ∃ k', k = k' + 1 := ⟨k - 1, by omega⟩
  rw [glacisref05_Key.l0]
  by_cases h0 : 0 < s.size
  · obtain ⟨c, hc⟩ := bt_u s 0 h0
    have hc' : bt s 0 = (c.toNat : Int) := hc
    rw [if_pos (by omega), if_pos (by omega), hc', show ((0 : Int) == 0) = true from rfl, small_u c]
    simp only [Option.bind_some]
    by_cases hf : smP c.toNat = true ∨ (c.toNat : Int) = 42
    · have e : (smP c.toNat || decide ((c.toNat : Int) = 42)) = true := by
        rcases hf with h | h
        · rw [h]; rfl
        · rw [decide_eq_true h, Bool.or_true]
      rw [if_pos e, if_pos ⟨h0, hf⟩]
      rw [show wrap64 ((0 : Int) + 1) = ((0 + 1 : Nat) : Int) from wrap_id _ (by omega)]
      have := key_l s hs h0 (by rw [hc']; exact hf) (s.size - 1) 0 k (by omega) (by omega) (fun j hj => by
        obtain rfl : j = 0 := by omega
        rw [hc]; exact (key_first c hf).1)
      exact this
    · have e : (smP c.toNat || decide ((c.toNat : Int) = 42)) = false := by
        rw [Bool.or_eq_false_iff]
        exact ⟨Bool.eq_false_iff.mpr (fun h => hf (Or.inl h)), decide_eq_false (fun h => hf (Or.inr h))⟩
      rw [e, if_neg (by decide), if_pos trivial, if_neg (fun h => hf h.2)]; rfl
  · rw [if_neg (by omega), if_pos rfl, if_neg (fun h => h0 h.1)]; rfl
theorem L_zero {s : ByteArray} (h : ¬ 0 < s.size) : L s = [] := by
  have : (L s).length = 0 := by rw [← size_L]; omega
  exact List.length_eq_zero_iff.1 this
theorem blank_nil (k : Nat) (s : ByteArray) (h0 : ¬ 0 < s.size) : glacisref05_Blank.l0 (k + 1) s = some (drpB spP s) := by
  rw [glacisref05_Blank.l0, if_neg (by omega)]
  congr 1
  apply L_inj
  rw [L_drp, L_zero h0]; rfl
theorem blank_stay (k : Nat) (s : ByteArray) (h0 : 0 < s.size) (h : bt s 0 ≠ 32) : glacisref05_Blank.l0 (k + 1) s = some (drpB spP s) := by
  obtain ⟨c, r, e⟩ := cons_of s h0
  rw [glacisref05_Blank.l0, if_pos (by omega), if_pos (by omega), if_neg h]
  congr 1
  apply L_inj
  rw [bt0 e] at h
  rw [L_drp, e, List.dropWhile_cons, if_neg (by unfold spP; rw [beq_iff_eq]; exact h)]
theorem blank_go (k : Nat) (s : ByteArray) (h0 : 0 < s.size) (h : bt s 0 = 32) : glacisref05_Blank.l0 (k + 1) s = glacisref05_Blank.l0 k (tl s) ∧ drpB spP s = drpB spP (tl s) := by
  obtain ⟨c, r, e⟩ := cons_of s h0
  refine ⟨by rw [glacisref05_Blank.l0, if_pos (by omega), if_pos (by omega), if_pos h, if_pos (by omega)]; rfl, ?_⟩
  apply L_inj
  rw [bt0 e] at h
  rw [L_drp, e, List.dropWhile_cons, if_pos (by unfold spP; exact beq_iff_eq.2 h), L_drp, L_tl, e]; rfl
theorem blank_l : ∀ (d : Nat) (s : ByteArray) (k : Nat), s.size ≤ d → d < k → glacisref05_Blank.l0 k s = some (drpB spP s)
  | 0, s, k, hd, hk => by
    obtain ⟨k, rfl⟩ : ∃ k', k = k' + 1 := ⟨k - 1, by omega⟩
    exact blank_nil k s (by omega)
  | d + 1, s, k, hd, hk => by
    obtain ⟨k, rfl⟩ : ∃ k', k = k' + 1 := ⟨k - 1, by omega⟩
    by_cases h0 : 0 < s.size
    · by_cases h : bt s 0 = 32
      · obtain ⟨h1, h2⟩ := blank_go k s h0 h
        have z := tl_lt s h0
        rw [h1, h2]
        exact blank_l d (tl s) k (by omega) (by omega)
      · exact blank_stay k s h0 h
    · exact blank_nil k s h0
theorem blank_f (s : ByteArray) (hs : s.size ≤ 100000) (k : Nat) (hk : s.size < k) : glacisref05_Blank.f k s = some (drpB spP s) := by
  unfold glacisref05_Blank.f
  exact blank_l s.size s k (Nat.le_refl _) hk
end Go.Proofs.YtciigmlibnpeeaaGreatDoor.Pr
/- Chapter 5: the document's own reader: parameters, items, fields. -/
namespace Go.Proofs.YtciigmlibnpeeaaGreatDoor.Pr
open Go.RowKit Go.Proofs.YtciigmlibnpeeaaGreatDoor.Pl Go.Proofs.YtciigmlibnpeeaaGreatDoor.Q Go.Proofs.YtciigmlibnpeeaaGreatDoor.Sf Go.Proofs.YtciigmlibnpeeaaGreatDoorW.PrintWords Go.Proofs.YtciigmlibnpeeaaGreatDoorW.PrintLast
set_option linter.unusedVariables false
set_option linter.unusedSimpArgs false
def wMap (key : ByteArray) (p : S61) (l : List S61) : List S61 := l.map fun q => if q.f0 = key then p else q
def wAny (key : ByteArray) (l : List S61) : Bool := l.any fun q => decide (q.f0 = key)
theorem toList_inj {a b : ByteArray} : a.toList = b.toList ↔ a = b := ⟨fun h => L_inj (by rw [← L_toList, ← L_toList, h]), fun h => by rw [h]⟩
theorem s38_eta (q : S61) : (⟨q.f0, q.f1, q.f2, q.f3⟩ : S61) = q := rfl
theorem with_l (l : List S61) (hl : l.length ≤ 100000) (p : S61) : ∀ (m j k : Nat), j + m = l.length → m < k →
    glacisref05_With.l0 k l (wMap p.f0 p (l.take j)) (wAny p.f0 (l.take j)) (j : Int) p.f0 p.f1 p.f2 p.f3 = some (if wAny p.f0 l = true then wMap p.f0 p l else wMap p.f0 p l ++ [p])
  | 0, j, k, hm, hk => by
    obtain ⟨k, rfl⟩ : ∃ k', k = k' + 1 := ⟨k - 1, by omega⟩
    have e : l.take j = l := List.take_of_length_le (by omega)
    rw [glacisref05_With.l0, if_neg (by omega), e]
    by_cases h : wAny p.f0 l = true
    · rw [if_pos h, if_pos h]
    · rw [if_neg h, if_neg h, if_pos (by unfold wMap; rw [List.length_map]; omega), s38_eta]
  | m + 1, j, k, hm, hk => by
    obtain ⟨k, rfl⟩ : ∃ k', k = k' + 1 := ⟨k - 1, by omega⟩
    have hj : j < l.length := by omega
    have et : l.take (j + 1) = l.take j ++ [l[j]] := take_snoc l j hj
    have hlen : (wMap p.f0 p (l.take j)).length < 2932031007402 := by unfold wMap; rw [List.length_map, List.length_take]; omega
    have ih := with_l l hl p m (j + 1) k (by omega) (by omega)
    rw [glacisref05_With.l0, if_pos (by omega), if_pos (by omega), rd_at5 l j hj, wrap_next j (by omega)]
    by_cases h : l[j].f0 = p.f0
    · rw [if_pos (toList_inj.2 h), if_pos hlen]
      have e1 : wMap p.f0 p (l.take (j + 1)) = wMap p.f0 p (l.take j) ++ [p] := by
        unfold wMap; rw [et, List.map_append]; simp [h]
      have e2 : wAny p.f0 (l.take (j + 1)) = true := by
        unfold wAny; rw [et, List.any_append]; simp [h]
      rw [e1, e2] at ih
      exact ih
    · rw [if_neg (fun e => h (toList_inj.1 e)), if_pos hlen]
      have e1 : wMap p.f0 p (l.take (j + 1)) = wMap p.f0 p (l.take j) ++ [l[j]] := by
        unfold wMap; rw [et, List.map_append]; simp [h]
      have e2 : wAny p.f0 (l.take (j + 1)) = wAny p.f0 (l.take j) := by
        unfold wAny; rw [et, List.any_append]; simp [h]
      rw [e1, e2] at ih
      exact ih
theorem with_is (l : List S61) (hd : Dist l) (p : S61) : (if wAny p.f0 l = true then wMap p.f0 p l else wMap p.f0 p l ++ [p]) = withP p.f0 l p := by
  unfold withP
  cases hf : l.findIdx? (fun q => decide (q.f0 = p.f0)) with
  | none =>
    have hn := List.findIdx?_eq_none_iff.1 hf
    have h1 : wAny p.f0 l = false := by
      unfold wAny
      rw [List.any_eq_false]
      intro q hq; have := hn q hq; simp only [decide_eq_false_iff_not] at this; simpa using this
    have h2 : wMap p.f0 p l = l := by
      unfold wMap
      conv => rhs; rw [← List.map_id l]
      refine List.map_congr_left (fun q hq => ?_)
      have := of_decide_eq_false (hn q hq)
      rw [if_neg this]; rfl
    rw [if_neg (by rw [h1]; decide), h2]
  | some i =>
    obtain ⟨hi, h1, _⟩ := List.findIdx?_eq_some_iff_getElem.1 hf
    have hk : l[i].f0 = p.f0 := of_decide_eq_true h1
    have ha : wAny p.f0 l = true := by
      unfold wAny
      rw [List.any_eq_true]
      exact ⟨l[i], List.getElem_mem hi, by simpa using hk⟩
    rw [if_pos ha]
    simp only []
    unfold wMap
    apply List.ext_getElem
    · simp
    · intro j h1 h2
      rw [List.length_map] at h1
      rw [List.getElem_map, List.getElem_set]
      by_cases e : i = j
      · subst e; rw [if_pos hk, if_pos rfl]
      · rw [if_neg e, if_neg]
        intro hq
        unfold Dist at hd
        have q1 : (l.map (·.f0))[j]'(by simp; omega) = (l.map (·.f0))[i]'(by simp; omega) := by simp [hq, hk]
        rcases Nat.lt_or_gt_of_ne e with c | c
        · exact List.pairwise_iff_getElem.1 hd i j (by simp; omega) (by simp; omega) c q1.symm
        · exact List.pairwise_iff_getElem.1 hd j i (by simp; omega) (by simp; omega) c q1
theorem with_f (l : List S61) (hl : l.length ≤ 100000) (hd : Dist l) (key : ByteArray) (n i : Int) (t : ByteArray) (k : Nat) (hk : l.length < k) : glacisref05_With.f k l key n i t = some (withP key l ⟨key, n, i, t⟩) := by
  unfold glacisref05_With.f
  have := with_l l hl ⟨key, n, i, t⟩ l.length 0 k (by omega) hk
  have e := with_is l hd ⟨key, n, i, t⟩
  simp only [] at this e
  rw [← e]
  exact this
def refP (o : Option (List S61 × ByteArray)) : List S61 × ByteArray × Int := match o with | some (l, t) => (l, t, 0) | none => ([], ⟨#[]⟩, 50)
theorem size_atF {s : ByteArray} {c : Int} (h : atF s c = true) : 0 < s.size := (of_decide_eq_true h).1
theorem params_l : ∀ (d : Nat) (s : ByteArray) (l : List S61) (k : Nat), s.size < d → s.size ≤ 20000 → l.length + s.size ≤ 20000 → Dist l → 3 * s.size + 60000 < k → glacisref05_Params.l0 k s l = some (refP (pF d s l))
  | 0, s, l, k, hd, hs, hl, hD, hk => by omega
  | d + 1, s, l, k, hd, hs, hl, hD, hk => by
    obtain ⟨k, rfl⟩ : ∃ k', k = k' + 3 := ⟨k - 3, by omega⟩
    have hj : glacisref05_Params.l0 (k + 3) s l = glacisref05_Params.j1 (k + 2) s l (atF s 59) := by
      rw [glacisref05_Params.l0]
      unfold atF
      by_cases h0 : 0 < s.size
      · rw [if_pos (by omega), if_pos (by omega)]
        by_cases h59 : bt s 0 = 59
        · rw [decide_eq_true ⟨h0, h59⟩, beq_iff_eq.2 h59]
        · rw [decide_eq_false (fun h => h59 h.2), beq_eq_false_iff_ne.2 h59]
      · rw [if_neg (by omega), decide_eq_false (fun h => h0 h.1)]
    rw [hj, glacisref05_Params.j1, pF]
    by_cases h59 : atF s 59 = true
    · have h0 := size_atF h59
      have z0 := tl_lt s h0
      rw [if_pos h59, if_pos h59, if_pos (by omega), ← tl_is, blank_f (tl s) (by omega) _ (by omega)]
      simp only [Option.bind_some]
      have z1 := drp_size spP (tl s)
      rw [key_f _ (by omega) _ (by omega)]
      simp only [Option.bind_some]
      cases hK : rdKey (drpB spP (tl s)) with
      | none =>
        rw [if_neg (show ¬ (refK none).2.2 = 0 by decide)]; rfl
      | some kr =>
        obtain ⟨key, t⟩ := kr
        have z2 := key_rest hK
        rw [if_pos (show (refK (some (key, t))).2.2 = 0 from rfl)]
        have hj2 : (if (t.size : Int) > 0 then (if 0 < (t.size : Int) then (glacisref05_Params.j2 (k + 1) t l key ((bt t 0) == 61) (⟨#[]⟩ : ByteArray) 6 1 (⟨#[]⟩ : ByteArray)) else none) else (glacisref05_Params.j2 (k + 1) t l key false (⟨#[]⟩ : ByteArray) 6 1 (⟨#[]⟩ : ByteArray))) = glacisref05_Params.j2 (k + 1) t l key (atF t 61) ⟨#[]⟩ 6 1 ⟨#[]⟩ := by
          unfold atF
          by_cases h0 : 0 < t.size
          · rw [if_pos (by omega), if_pos (by omega)]
            by_cases h61 : bt t 0 = 61
            · rw [decide_eq_true ⟨h0, h61⟩, beq_iff_eq.2 h61]
            · rw [decide_eq_false (fun h => h61 h.2), beq_eq_false_iff_ne.2 h61]
          · rw [if_neg (by omega), decide_eq_false (fun h => h0 h.1)]
        refine Eq.trans hj2 ?_
        show _ = some (refP (if atF t 61 = true then (rdValue (tl t)).bind fun vr => pF d vr.2 (withP key l ⟨key, vr.1.1, vr.1.2.1, vr.1.2.2⟩) else pF d t (withP key l ⟨key, 6, 1, ⟨#[]⟩⟩)))
        rw [glacisref05_Params.j2]
        by_cases h61 : atF t 61 = true
        · have h1 := size_atF h61
          have z3 := tl_lt t h1
          rw [if_pos h61, if_pos h61, if_pos (by omega), ← tl_is, value_f (tl t) (by omega) _ (by omega)]
          simp only [Option.bind_some]
          cases hV : rdValue (tl t) with
          | none => rw [if_neg (show ¬ (refV none).2.2.2.2.2 = true by decide)]; rfl
          | some vr =>
            obtain ⟨⟨n, i, tx⟩, t3⟩ := vr
            have z4 := value_rest hV
            rw [if_pos (show (refV (some ((n, i, tx), t3))).2.2.2.2.2 = true from rfl)]
            show (Option.bind (glacisref05_With.f k l key n i tx) fun t208 => glacisref05_Params.l0 k t3 t208) = some (refP (pF d t3 (withP key l ⟨key, n, i, tx⟩)))
            rw [with_f l (by omega) hD key n i tx _ (by omega)]
            simp only [Option.bind_some]
            have zl := withP_len key l ⟨key, n, i, tx⟩
            exact params_l d t3 _ k (by omega) (by omega) (by omega) (dist_with _ _ _ rfl hD) (by omega)
        · rw [if_neg h61, if_neg h61, with_f l (by omega) hD key 6 1 ⟨#[]⟩ _ (by omega)]
          simp only [Option.bind_some]
          have zl := withP_len key l ⟨key, 6, 1, ⟨#[]⟩⟩
          exact params_l d t _ k (by omega) (by omega) (by omega) (dist_with _ _ _ rfl hD) (by omega)
    · rw [if_neg h59, if_neg h59]; rfl
theorem params_f (s : ByteArray) (hs : s.size ≤ 20000) (k : Nat) (hk : 3 * s.size + 60000 < k) : glacisref05_Params.f k s = some (refP (rdParams s)) := by
  unfold glacisref05_Params.f rdParams
  exact params_l (s.size + 1) s [] k (by omega) hs (by simpa using hs) (by unfold Dist; simp) hk
def refN (o : Option ((Int × Int × ByteArray) × List S61 × ByteArray)) : Int × Int × ByteArray × List S61 × ByteArray × Int := match o with | some (v, l, t) => (v.1, v.2.1, v.2.2, l, t, 0) | none => (0, 0, ⟨#[]⟩, [], ⟨#[]⟩, 50)
theorem next_f (s : ByteArray) (hs : s.size ≤ 20000) (k : Nat) (hk : 3 * s.size + 60000 < k) : glacisref05_Next.f k s = some (refN (rdNext s)) := by
  unfold glacisref05_Next.f rdNext
  rw [value_f s (by omega) k (by omega)]
  simp only [Option.bind_some]
  cases hV : rdValue s with
  | none => rw [if_neg (show ¬ (refV none).2.2.2.2.2 = true by decide)]; rfl
  | some vr =>
    obtain ⟨⟨n, i, tx⟩, t⟩ := vr
    have z := value_rest hV
    rw [if_pos (show (refV (some ((n, i, tx), t))).2.2.2.2.2 = true from rfl)]
    show (Option.bind (glacisref05_Params.f k t) fun bt222 => if bt222.2.2 = 0 then some (n, i, tx, bt222.1, bt222.2.1, 0) else some (0, 0, (⟨#[]⟩ : ByteArray), ([] : List (S61)), (⟨#[]⟩ : ByteArray), bt222.2.2)) = some (refN ((rdParams t).bind fun p => some ((n, i, tx), p.1, p.2)))
    rw [params_f t (by omega) k (by omega)]
    simp only [Option.bind_some]
    cases hP : rdParams t with
    | none => rw [if_neg (show ¬ (refP none).2.2 = 0 by decide)]; rfl
    | some lr =>
      obtain ⟨l, r⟩ := lr
      rw [if_pos (show (refP (some (l, r))).2.2 = 0 from rfl)]; rfl
/-- Trimming from the left, then from the right. -/
def trimR (u : List UInt8) : List UInt8 := (u.reverse.dropWhile (· == 32)).reverse
theorem trimR_cons (c : UInt8) (u : List UInt8) : trimR (u ++ [c]) = if c = 32 then trimR u else u ++ [c] := by
  unfold trimR
  rw [List.reverse_append, List.reverse_singleton, List.singleton_append, List.dropWhile_cons]
  by_cases h : c = 32
  · rw [if_pos (by simpa using h), if_pos h]
  · rw [if_neg (by simpa using h), if_neg h]; simp
theorem trimR_head (x : UInt8) (u : List UInt8) (hx : x ≠ 32) : trimR (x :: u) = x :: trimR u := by
  unfold trimR
  rw [List.reverse_cons]
  have key : ∀ v : List UInt8, (v ++ [x]).dropWhile (· == 32) = v.dropWhile (· == 32) ++ [x] := by
    intro v
    induction v with
    | nil => rw [List.nil_append, List.dropWhile_cons, if_neg (by simpa using hx)]; rfl
    | cons y v ih =>
      rw [List.cons_append, List.dropWhile_cons, List.dropWhile_cons]
      by_cases h : (y == 32) = true
      · rw [if_pos h, if_pos h, ih]
      · rw [if_neg h, if_neg h]; rfl
  rw [key, List.reverse_append]; rfl
theorem trimR_cons32 (u : List UInt8) : (trimR (32 :: u)).dropWhile (· == 32) = (trimR u).dropWhile (· == 32) := by
  unfold trimR
  rw [List.reverse_cons]
  have key : ∀ v : List UInt8, (v ++ [32]).dropWhile (· == 32) = if v.dropWhile (· == 32) = [] then [] else v.dropWhile (· == 32) ++ [32] := by
    intro v
    induction v with
    | nil => rfl
    | cons y v ih =>
      rw [List.cons_append, List.dropWhile_cons, List.dropWhile_cons]
      by_cases h : (y == 32) = true
      · rw [if_pos h, if_pos h, ih]
      · rw [if_neg h, if_neg h, if_neg (by simp)]; rfl
  rw [key]
  by_cases h : u.reverse.dropWhile (· == 32) = []
  · rw [if_pos h, h]
  · rw [if_neg h, List.reverse_append]; simp
theorem trim_comm (u : List UInt8) : trimR (u.dropWhile (· == 32)) = (trimR u).dropWhile (· == 32) := by
  induction u with
  | nil => rfl
  | cons x u ih =>
    rw [List.dropWhile_cons]
    by_cases h : (x == 32) = true
    · have : x = 32 := by simpa using h
      subst this
      rw [if_pos h, ih, trimR_cons32]
    · rw [if_neg h, trimR_head x u (by simpa using h), List.dropWhile_cons, if_neg h]
theorem right_nil (k : Nat) (s : ByteArray) (h0 : ¬ 0 < s.size) : glacisref05_Trim.l0 (k + 1) s = some (B (trimR (L s))) := by
  rw [glacisref05_Trim.l0, if_neg (by omega)]
  congr 1
  apply L_inj
  rw [L_B, L_zero h0]; rfl
theorem last_split (s : ByteArray) (h0 : 0 < s.size) : ∃ c : UInt8, bt s ((s.size - 1 : Nat) : Int) = (c.toNat : Int) ∧ L s = L (s.extract 0 (s.size - 1)) ++ [c] := by
  have hx : s.size - 1 < (L s).length := by rw [← size_L]; omega
  refine ⟨(L s)[s.size - 1], bt_L s _ hx, ?_⟩
  rw [L_ext0, ← take_snoc (L s) (s.size - 1) hx, List.take_of_length_le (by rw [← size_L]; omega)]
theorem wrap_pred (n : Nat) (h0 : 0 < n) (h : n ≤ 100000) : wrap64 ((n : Int) - 1) = ((n - 1 : Nat) : Int) := by unfold wrap64; omega
theorem right_step (k : Nat) (s : ByteArray) (h0 : 0 < s.size) (hs : s.size ≤ 100000) : glacisref05_Trim.l0 (k + 1) s = if bt s ((s.size - 1 : Nat) : Int) = 32 then glacisref05_Trim.l0 k (s.extract 0 (s.size - 1)) else some s := by
  have p1 : ((s.size : Int)) > 0 := by omega
  have p2 : (0 : Int) ≤ (((s.size - 1 : Nat) : Int)) := by omega
  have p3 : (((s.size - 1 : Nat) : Int)) < (s.size : Int) := by omega
  have p4 : (((s.size - 1 : Nat) : Int)) ≤ (s.size : Int) := by omega
  rw [glacisref05_Trim.l0, if_pos p1, wrap_pred _ h0 hs, if_pos p2, if_pos p3, if_pos p4]
  rfl
theorem right_l : ∀ (d : Nat) (s : ByteArray) (k : Nat), s.size ≤ d → s.size ≤ 100000 → d < k → glacisref05_Trim.l0 k s = some (B (trimR (L s)))
  | 0, s, k, hd, hs, hk => by
    obtain ⟨k, rfl⟩ : ∃ k', k = k' + 1 := ⟨k - 1, by omega⟩
    exact right_nil k s (by omega)
  | d + 1, s, k, hd, hs, hk => by
    obtain ⟨k, rfl⟩ : ∃ k', k = k' + 1 := ⟨k - 1, by omega⟩
    by_cases h0 : 0 < s.size
    · obtain ⟨c, hc, el⟩ := last_split s h0
      have hz : (s.extract 0 (s.size - 1)).size + 1 = s.size := by rw [ByteArray.size_extract]; omega
      rw [right_step k s h0 hs, hc]
      by_cases h32 : (c.toNat : Int) = 32
      · rw [if_pos h32, right_l d _ k (by omega) (by omega) (by omega), el, trimR_cons, if_pos (u_eq h32)]
      · rw [if_neg h32]
        congr 1
        apply L_inj
        rw [L_B, el, trimR_cons, if_neg (fun e => h32 (by rw [e]; rfl))]
    · exact right_nil k s h0
theorem trim_f (s : ByteArray) (hs : s.size ≤ 100000) (k : Nat) (hk : s.size < k) : glacisref05_Trim.f k s = some (trimSp s) := by
  unfold glacisref05_Trim.f
  rw [blank_f s hs k hk]
  simp only [Option.bind_some]
  have z := drp_size spP s
  rw [right_l s.size _ k z (by omega) hk]
  congr 1
  apply L_inj
  have ht : L (trimSp s) = Lib.trimB (L s) 32 := by unfold trimSp L; simp
  have hp : (fun c : UInt8 => spP c.toNat) = (fun c : UInt8 => c == 32) := by
    funext c
    have := allU (fun c : UInt8 => spP c.toNat == (c == 32)) (by decide +kernel) c
    exact beq_iff_eq.1 this
  rw [L_B, ht, L_drp, hp, trim_comm]
  rfl
theorem parse_f (s : ByteArray) (hs : s.size ≤ 20000) (k : Nat) (hk : 130000 < k) : glacisref05_Parse.f k s = sfitem_Parse.f s := by
  unfold glacisref05_Parse.f sfitem_Parse.f strings_Trim.f
  have hz : (trimSp s).size ≤ s.size := by
    have : L (trimSp s) = Lib.trimB (L s) 32 := by unfold trimSp L; simp
    rw [size_L, size_L, this]; exact trim_len _
  have hbig : s.size ≤ 9223372036854775807 := by omega
  have hmid : (trimSp s).size ≤ 2199023255552 := by omega
  rw [trim_f s (by omega) k (by omega), if_pos (show (⟨#[32]⟩ : ByteArray) = ⟨#[32]⟩ ∧ s.size ≤ 9223372036854775807 from ⟨rfl, hbig⟩)]
  simp only [Option.bind_some]
  rw [next_f _ (by omega) k (by omega)]
  unfold sfitem_Next.f
  rw [if_pos hmid]
  simp only [Option.bind_some]
  clear hbig hmid
  cases rdNext (trimSp s) with
  | none =>
    by_cases h4 : (s.size : Int) > 4000
    · rw [if_pos h4]; rfl
    · rw [if_neg h4]; rfl
  | some x =>
    obtain ⟨v, l, t⟩ := x
    rw [if_pos (show (refN (some (v, l, t))).2.2.2.2.2 = 0 from rfl)]
    show _ = (if (0 : Int) = 0 then (if t.toList = ([] : List UInt8) then (if (s.size : Int) > 4000 then some ((0 : Int), (0 : Int), (⟨#[]⟩ : ByteArray), ([] : List (S61)), (50 : Int)) else some (v.1, v.2.1, v.2.2, l, (0 : Int))) else some ((0 : Int), (0 : Int), (⟨#[]⟩ : ByteArray), ([] : List (S61)), (50 : Int))) else some ((0 : Int), (0 : Int), (⟨#[]⟩ : ByteArray), ([] : List (S61)), (50 : Int)))
    rw [if_pos (show (0 : Int) = 0 from rfl)]
    by_cases h4 : (s.size : Int) > 4000
    · rw [if_pos h4]
      by_cases ht : t.toList = ([] : List UInt8)
      · rw [if_pos ht, if_pos h4]
      · rw [if_neg ht]
    · rw [if_neg h4]
      by_cases ht : t.toList = ([] : List UInt8)
      · rw [if_pos (show (refN (some (v, l, t))).2.2.2.2.1.toList = ([] : List UInt8) from ht), if_pos ht, if_neg h4]; rfl
      · rw [if_neg (show ¬ (refN (some (v, l, t))).2.2.2.2.1.toList = ([] : List UInt8) from ht), if_neg ht]
end Go.Proofs.YtciigmlibnpeeaaGreatDoor.Pr
/- Chapter 8: the document's answers: a field's word, policies, the head without what is but reported. -/
namespace Go.Proofs.YtciigmlibnpeeaaGreatDoor.Pl
set_option linter.unusedVariables false
set_option linter.unusedSimpArgs false
open Go.RowKit Go.Proofs.YtciigmlibnpeeaaGreatDoor.Q Go.Proofs.YtciigmlibnpeeaaGreatDoor.Sf Go.Proofs.YtciigmlibnpeeaaGreatDoorW.PrintWords Go.Proofs.YtciigmlibnpeeaaGreatDoorW.PrintLast
theorem pt_keys {u : List UInt8} {l l1 : List S61} (h : PT u l l1) : Dist l → Dist l1 := by
  induction h with
  | nil => exact fun h => h
  | flag b k u l l1 hb hk h ih => exact fun h0 => ih (dist_with _ _ _ rfl h0)
  | val b k w u n i t l l1 hb hk hv h ih => exact fun h0 => ih (dist_with _ _ _ rfl h0)
/-- The last report-to that is a text, or what was there. -/
def lastF : ByteArray → List S61 → ByteArray
  | a, [] => a
  | a, p :: l => if p.f0 = reportTo ∧ p.f1 = 3 then lastF p.f3 l else lastF a l
theorem lastF_none (l : List S61) (h : ∀ p ∈ l, p.f0 ≠ reportTo) (a : ByteArray) : lastF a l = a := by
  induction l with
  | nil => rfl
  | cons p l ih =>
    rw [lastF, if_neg (fun e => h p List.mem_cons_self e.1)]
    exact ih (fun q hq => h q (List.mem_cons_of_mem _ hq))
theorem lastF_toF (l : List S61) (h : Dist l) : lastF ⟨#[]⟩ l = toF l := by
  induction l with
  | nil => rfl
  | cons p l ih =>
    have h2 : (p.f0 :: l.map (fun p => p.f0)).Nodup := h
    obtain ⟨h3, h4⟩ := List.nodup_cons.1 h2
    rw [lastF, toF]
    by_cases e : p.f0 = reportTo ∧ p.f1 = 3
    · rw [if_pos e, if_pos e]
      exact lastF_none l (fun q hq c => h3 (by rw [e.1, ← c]; exact List.mem_map.2 ⟨q, hq, rfl⟩)) _
    · rw [if_neg e, if_neg e]; exact ih h4
theorem word_loop (n i0 : Int) (tx : ByteArray) (l : List S61) (hl : l.length ≤ 4000) : ∀ (d i : Nat) (a : ByteArray), l.length - i = d → i ≤ l.length → Evn (fun k => glacisref08_word.l0 k a (i : Int) n i0 tx l) (tx, lastF a (l.drop i)) := by
  intro d
  induction d with
  | zero =>
    intro i a hd hi
    obtain rfl : i = l.length := by omega
    refine Evn.succ ?_
    simp only [glacisref08_word.l0]
    refine Evn.iff_neg (by omega) ?_
    rw [List.drop_length]
    exact Evn.some _
  | succ d ih =>
    intro i a hd hi
    have hlt : i < l.length := by omega
    refine Evn.succ ?_
    simp only [glacisref08_word.l0]
    refine Evn.iff_pos (by omega) (Evn.iff_pos (by omega) ?_)
    rw [rd_get l i hlt, List.drop_eq_getElem_cons hlt, lastF]
    have ew : wrap64 ((i : Int) + 1) = ((i + 1 : Nat) : Int) := by rw [wr64 (by omega) (by omega)]; omega
    rw [ew]
    generalize l[i] = p at *
    by_cases e1 : p.f0 = reportTo
    · refine Evn.iff_pos (by rw [e1, rt_list]) ?_
      by_cases e2 : p.f1 = 3
      · rw [if_pos ⟨e1, e2⟩]
        exact Evn.iff_pos e2 (ih (i + 1) _ (by omega) (by omega))
      · rw [if_neg (fun h => e2 h.2)]
        exact Evn.iff_neg e2 (ih (i + 1) _ (by omega) (by omega))
    · rw [if_neg (fun h => e1 h.1)]
      exact Evn.iff_neg (fun h => e1 ((toList_iff _ _).1 (h.trans rt_list.symm))) (ih (i + 1) _ (by omega) (by omega))
theorem ref_word {l : List S35} (h : Small l 100 4000) (nm : ByteArray) (hz : nm.size ≤ 281474976710656) : Evn (fun k => glacisref08_word.f k l nm) (wordOf l nm) := by
  have hs : Small l 1000 5000 := small_up h (by omega) (by omega)
  have hb : ∀ (k : Nat) (n i : Int) (t : ByteArray) (ps : List S61), glacisref08_word.j0 (k + 1) true n i t ps = some (⟨#[]⟩, ⟨#[]⟩) := fun k n i t ps => by rw [glacisref08_word.j0, if_pos rfl]
  have hw : wordOf l nm = match (headers_Combined.f l nm).bind fun t => (sfitem_Parse.f t.1).bind fun x => if t.2 = true ∧ x.2.2.2.2 = 0 ∧ x.1 = 4 then (if x.2.2.2.1.length ≤ 140737488355327 then some (x.2.2.1, toF x.2.2.2.1) else none) else some ((⟨#[]⟩ : ByteArray), (⟨#[]⟩ : ByteArray)) with | some p => p | none => (⟨#[]⟩, ⟨#[]⟩) := rfl
  rw [combined_f hs (by omega) (by omega) nm hz] at hw
  simp only [Option.bind_some] at hw
  unfold glacisref08_word.f
  refine Evn.bind (ref_combined h (by omega) (by omega) nm hz) ?_
  have hj := join_size (valsOf l nm) comSp 4000 (fun x hx => vals_small h nm x hx)
  have hl := valsOf_len l nm
  have h1 := h.1
  have hbz : (valsOf l nm).length * (4000 + comSp.size) ≤ 100 * 4002 := Nat.mul_le_mul (by omega) (Nat.le_refl _)
  generalize joinBA (valsOf l nm) comSp = s at *
  generalize decide (((valsOf l nm).length : Int) > 0) = b at *
  obtain ⟨⟨kd, iv, tx, ps, e⟩, hp⟩ := parse_all s (by omega)
  rw [hp] at hw
  simp only [Option.bind_some] at hw
  by_cases hsz : s.size ≤ 4000
  · refine Evn.bind (a := (kd, iv, tx, ps, e)) ⟨130001, fun k hk => by show glacisref05_Parse.f k s = _; rw [Pr.parse_f s (by omega) k (by omega), hp]⟩ ?_
    cases b with
    | false =>
      refine Evn.iff_neg (show ¬ (false = true) by decide) ?_
      rw [hw, if_neg (by intro h; exact absurd h.1 (by decide))]
      exact Evn.succ ⟨0, fun k _ => hb k _ _ _ _⟩
    | true =>
      refine Evn.iff_pos rfl ?_
      by_cases he : e = 0
      · refine Evn.iff_pos he ?_
        by_cases hk : kd = 4
        · subst he hk
          obtain ⟨z1, z2⟩ := read_size hp
          obtain ⟨u, ⟨x1, x2, rfl, hv, hpt⟩, -, -⟩ := parse_inv hp
          have hno := pt_keys hpt (by unfold Dist; simp)
          rw [hw, if_pos ⟨rfl, rfl, rfl⟩, if_pos (by omega), ← lastF_toF ps hno]
          refine Evn.succ ?_
          refine Evn.congr (word_loop 4 iv tx ps z2 _ 0 ⟨#[]⟩ rfl (by omega)) (fun k => ?_)
          show glacisref08_word.j0 (k + 1) ((4 : Int) != 4) 4 iv tx ps = _
          rw [glacisref08_word.j0, if_neg (by decide)]
          rfl
        · rw [hw, if_neg (fun h => hk h.2.2)]
          refine Evn.succ ⟨0, fun k _ => ?_⟩
          show glacisref08_word.j0 (k + 1) (kd != 4) kd iv tx ps = _
          rw [bne_iff_ne.mpr hk]
          exact hb k _ _ _ _
      · refine Evn.iff_neg he ?_
        rw [hw, if_neg (fun h => he h.2.1)]
        exact Evn.succ ⟨0, fun k _ => hb k _ _ _ _⟩
  · have he : e ≠ 0 := by
      intro h0
      subst h0
      obtain ⟨u, -, -, hc⟩ := parse_inv hp
      omega
    refine Evn.bind (a := (0, 0, ⟨#[]⟩, [], 50)) ⟨0, fun k _ => by show glacisref05_Parse.f k s = _; unfold glacisref05_Parse.f; rw [if_pos (by omega)]⟩ ?_
    rw [hw, if_neg (fun h => he h.2.1)]
    cases b with
    | false => exact Evn.iff_neg (show ¬ (false = true) by decide) (Evn.succ ⟨0, fun k _ => hb k _ _ _ _⟩)
    | true => exact Evn.iff_pos rfl (Evn.iff_neg (show ¬ ((50 : Int) = 0) by decide) (Evn.succ ⟨0, fun k _ => hb k _ _ _ _⟩))
theorem ba_lit (w : ByteArray) (k : ByteArray) {u : List UInt8} (h : k.toList = u) : w.toList = u ↔ w = k := by
  rw [← h, toList_iff]
theorem lit_names : kReq.toList = ([114, 101, 113, 117, 105, 114, 101, 45, 99, 111, 114, 112] : List UInt8) ∧ kCred.toList = ([99, 114, 101, 100, 101, 110, 116, 105, 97, 108, 108, 101, 115, 115] : List UInt8) ∧ kSame.toList = ([115, 97, 109, 101, 45, 111, 114, 105, 103, 105, 110] : List UInt8) ∧ kPop.toList = ([115, 97, 109, 101, 45, 111, 114, 105, 103, 105, 110, 45, 97, 108, 108, 111, 119, 45, 112, 111, 112, 117, 112, 115] : List UInt8) := by
  refine ⟨?_, ?_, ?_, ?_⟩ <;> (rw [Lib.toList_data]; rfl)
theorem key_ne : kReq ≠ kCred ∧ kSame ≠ kPop := by decide +kernel
theorem ref_embV (w : ByteArray) : glacisref08_coep.f w = some (embV w) := by
  obtain ⟨l1, l2, -, -⟩ := lit_names
  unfold glacisref08_coep.f embV twoOf
  by_cases h1 : w = kReq
  · rw [if_pos ((ba_lit w kReq l1).2 h1), if_neg (by rw [h1]; exact key_ne.1), if_pos h1]
  · rw [if_neg (fun c => h1 ((ba_lit w kReq l1).1 c)), if_neg h1]
    by_cases h2 : w = kCred
    · rw [if_pos ((ba_lit w kCred l2).2 h2), if_pos h2]
    · rw [if_neg (fun c => h2 ((ba_lit w kCred l2).1 c)), if_neg h2]
theorem ref_opnV (w : ByteArray) (b : Bool) : Evn (fun k => glacisref08_coop.f k w b) (plusF (opnV w) b) := by
  obtain ⟨-, -, l3, l4⟩ := lit_names
  unfold glacisref08_coop.f
  by_cases h1 : w = kSame
  · refine Evn.iff_pos ((ba_lit w kSame l3).2 h1) (Evn.succ ⟨0, fun k _ => ?_⟩)
    have e : opnV w = 2 := by unfold opnV twoOf; rw [if_neg (by rw [h1]; exact key_ne.2), if_pos h1]
    rw [e]
    show glacisref08_coop.j0 (k + 1) w b = _
    rw [glacisref08_coop.j0]
    cases b with
    | true => rw [if_pos rfl]; rfl
    | false => rw [if_neg (by decide), if_pos ((ba_lit w kSame l3).2 h1)]; rfl
  · refine Evn.iff_neg (fun c => h1 ((ba_lit w kSame l3).1 c)) (Evn.succ ⟨0, fun k _ => ?_⟩)
    show glacisref08_coop.j0 (k + 1) w false = _
    rw [glacisref08_coop.j0, if_neg (by decide), if_neg (fun c => h1 ((ba_lit w kSame l3).1 c))]
    unfold opnV twoOf
    by_cases h2 : w = kPop
    · rw [if_pos ((ba_lit w kPop l4).2 h2), if_pos h2]; rfl
    · rw [if_neg (fun c => h2 ((ba_lit w kPop l4).1 c)), if_neg h2, if_neg h1]; rfl
theorem ref_coep {l : List S35} (h : Small l 100 4000) : Evn (fun k => glacisref08_Coep.f k l true) (embV (wordOf l nCoep).1, (wordOf l nCoep).2, embV (wordOf l nCoepR).1, (wordOf l nCoepR).2) := by
  unfold glacisref08_Coep.f
  refine Evn.iff_pos rfl ?_
  refine Evn.bind (ref_word h nCoep (by decide)) ?_
  refine Evn.bind (ref_word h nCoepR (by decide)) ?_
  refine Evn.bind (Evn.ret (ref_embV _)) ?_
  refine Evn.bind (Evn.ret (ref_embV _)) ?_
  exact Evn.some _
theorem ref_iso (x : Int) : glacisref08_Isolates.f x = some (isoF x) := by
  unfold glacisref08_Isolates.f isoF
  by_cases h : x = 1
  · rw [if_pos h]; subst h; rfl
  · rw [if_neg h, beq_eq_false_iff_ne.mpr h]; rfl
theorem ref_coop {l : List S35} (h : Small l 100 4000) : Evn (fun k => glacisref08_Coop.f k l true) (plusF (opnV (wordOf l nCoop).1) (isoF (embV (wordOf l nCoep).1)), (wordOf l nCoop).2, plusF (opnV (wordOf l nCoopR).1) (isoF (embV (wordOf l nCoep).1) || isoF (embV (wordOf l nCoepR).1)), (wordOf l nCoopR).2) := by
  unfold glacisref08_Coop.f
  refine Evn.iff_pos rfl ?_
  refine Evn.bind (ref_coep h) ?_
  refine Evn.bind (Evn.ret (ref_iso _)) ?_
  refine Evn.bind (Evn.ret (ref_iso _)) ?_
  refine Evn.bind (ref_word h nCoop (by decide)) ?_
  refine Evn.bind (ref_word h nCoopR (by decide)) ?_
  refine Evn.bind (ref_opnV _ _) ?_
  generalize isoF (embV (wordOf l nCoep).1) = b at *
  cases b with
  | true =>
    refine Evn.iff_pos rfl ?_
    refine Evn.bind (ref_opnV _ _) ?_
    exact Evn.some _
  | false =>
    refine Evn.iff_neg (by decide) ?_
    refine Evn.bind (ref_opnV _ _) ?_
    exact Evn.some _
theorem low_rep : (lowBA nCoopR).toList = ([99, 114, 111, 115, 115, 45, 111, 114, 105, 103, 105, 110, 45, 111, 112, 101, 110, 101, 114, 45, 112, 111, 108, 105, 99, 121, 45, 114, 101, 112, 111, 114, 116, 45, 111, 110, 108, 121] : List UInt8) ∧ (lowBA nCoepR).toList = ([99, 114, 111, 115, 115, 45, 111, 114, 105, 103, 105, 110, 45, 101, 109, 98, 101, 100, 100, 101, 114, 45, 112, 111, 108, 105, 99, 121, 45, 114, 101, 112, 111, 114, 116, 45, 111, 110, 108, 121] : List UInt8) := by
  refine ⟨?_, ?_⟩ <;> (rw [Lib.toList_data]; decide +kernel)
theorem fold_lit (s nm : ByteArray) {u : List UInt8} (h : (lowBA nm).toList = u) : (lowBA s).toList = u ↔ foldEq s nm = true := by
  rw [← h, toList_iff, foldEq_iff]
theorem ref_plain_l0 (l : List S35) (h : Small l 1000 5000) : ∀ (d i : Nat) (x : List S35), l.length - i = d → i ≤ l.length → x.length ≤ i → Evn (fun k => glacisref08_Plain.l0 k l x (i : Int)) (x ++ (l.drop i).filter plainQ) := by
  have h1 := h.1
  obtain ⟨lr1, lr2⟩ := low_rep
  intro d
  induction d with
  | zero =>
    intro i x hd hi hx
    obtain rfl : i = l.length := by omega
    refine Evn.succ ?_
    simp only [glacisref08_Plain.l0]
    refine Evn.iff_neg (by omega) ?_
    rw [List.drop_length]
    simpa using Evn.some _
  | succ d ih =>
    intro i x hd hi hx
    have hlt : i < l.length := by omega
    have hz := (h.2 l[i] (List.getElem_mem hlt)).1
    refine Evn.succ ?_
    simp only [glacisref08_Plain.l0]
    refine Evn.iff_pos (by omega) (Evn.iff_pos (by omega) ?_)
    rw [rd_hdr l i hlt, List.drop_eq_getElem_cons hlt, List.filter_cons]
    generalize l[i] = h at *
    have ew : wrap64 ((i : Int) + 1) = ((i + 1 : Nat) : Int) := by rw [wr64 (by omega) (by omega)]; omega
    rw [ew]
    refine Evn.bind (Evn.ret (ref_lower h.f0 hz)) ?_
    cases e1 : foldEq h.f0 nCoopR with
    | true =>
      have : plainQ h = false := by unfold plainQ; rw [e1]; rfl
      rw [this]
      refine Evn.iff_pos ((fold_lit h.f0 nCoopR lr1).2 e1) ?_
      exact ih (i + 1) x (by omega) (by omega) (by omega)
    | false =>
      refine Evn.iff_neg (fun c => by have := (fold_lit h.f0 nCoopR lr1).1 c; rw [e1] at this; cases this) ?_
      cases e2 : foldEq h.f0 nCoepR with
      | true =>
        have : plainQ h = false := by unfold plainQ; rw [e1, e2]; rfl
        rw [this]
        refine Evn.iff_pos ((fold_lit h.f0 nCoepR lr2).2 e2) ?_
        exact ih (i + 1) x (by omega) (by omega) (by omega)
      | false =>
        have : plainQ h = true := by unfold plainQ; rw [e1, e2]; rfl
        rw [this]
        refine Evn.iff_neg (fun c => by have := (fold_lit h.f0 nCoepR lr2).1 c; rw [e2] at this; cases this) (Evn.iff_pos (by omega) ?_)
        have := ih (i + 1) (x ++ [h]) (by omega) (by omega) (by rw [List.length_append]; simp; omega)
        simpa using this
theorem ref_plain {l : List S35} (h : Small l 1000 5000) : Evn (fun k => glacisref08_Plain.f k l) (l.filter plainQ) := by
  unfold glacisref08_Plain.f
  have := ref_plain_l0 l h _ 0 [] rfl (by omega) (by simp)
  simpa using this
theorem same_l0 (l : List S35) (hl : l.length ≤ 1000) : ∀ (d i : Nat), l.length - i = d → i ≤ l.length → Evn (fun k => glacisref08_Same.l0 k l l (i : Int)) true := by
  intro d
  induction d with
  | zero =>
    intro i hd hi
    obtain rfl : i = l.length := by omega
    refine Evn.succ ?_
    simp only [glacisref08_Same.l0]
    exact Evn.iff_neg (by omega) (Evn.some _)
  | succ d ih =>
    intro i hd hi
    have hlt : i < l.length := by omega
    refine Evn.succ ?_
    simp only [glacisref08_Same.l0]
    refine Evn.iff_pos (by omega) (Evn.iff_pos (by omega) (Evn.iff_pos (by omega) (Evn.iff_neg (by simp) ?_)))
    rw [show wrap64 ((i : Int) + 1) = ((i + 1 : Nat) : Int) by rw [wr64 (by omega) (by omega)]; omega]
    exact ih (i + 1) (by omega) (by omega)
theorem same_self (l : List S35) (hl : l.length ≤ 1000) : Evn (fun k => glacisref08_Same.f k l l) true := by
  unfold glacisref08_Same.f
  exact Evn.iff_pos rfl (same_l0 l hl _ 0 rfl (by omega))
end Go.Proofs.YtciigmlibnpeeaaGreatDoor.Pl
/- CoopReads, in plain terms: the policies of any head, and the head without what is but reported, are the document's. -/
namespace Go.Proofs.YtciigmlibnpeeaaGreatDoor.Pure
set_option linter.unusedVariables false
set_option linter.unusedSimpArgs false
open Go.RowKit Go.Proofs.YtciigmlibnpeeaaGreatDoor.Pl Go.Proofs.YtciigmlibnpeeaaGreatDoor.Q Go.Proofs.YtciigmlibnpeeaaGreatDoor.Sf Go.Proofs.YtciigmlibnpeeaaGreatDoorW.PrintWords Go.Proofs.YtciigmlibnpeeaaGreatDoorW.PrintLast
theorem iso_same (x : Int) : coop_Isolates.f x = some (isoF x) := by
  unfold coop_Isolates.f isoF
  by_cases h : x = 1
  · rw [if_pos h]; subst h; rfl
  · rw [if_neg h, beq_eq_false_iff_ne.mpr h]; rfl
theorem both_coop {l : List S35} (h : Small l 100 4000) (b : Bool) : ∃ r, coop_Coop.f l b = some r ∧ Evn (fun k => glacisref08_Coop.f k l b) r := by
  cases b with
  | true => exact ⟨_, coop_f (small_up h (by omega) (by omega)), ref_coop h⟩
  | false => exact ⟨_, coop_off l, by unfold glacisref08_Coop.f; exact Evn.iff_neg (by decide) (Evn.some _)⟩
theorem both_coep {l : List S35} (h : Small l 100 4000) (b : Bool) : ∃ r, coop_Coep.f l b = some r ∧ Evn (fun k => glacisref08_Coep.f k l b) r := by
  cases b with
  | true => exact ⟨_, coep_f (small_up h (by omega) (by omega)), ref_coep h⟩
  | false => exact ⟨_, coep_off l, by unfold glacisref08_Coep.f; exact Evn.iff_neg (by decide) (Evn.some _)⟩
theorem CoopReadsAll (l : List S35) (b : Bool) (x : Int) : ∃ k, glacislaw08_CoopReads.f k l b x = some true := by
  apply Evn.ex
  unfold glacislaw08_CoopReads.f
  refine Evn.bind awake8 ?_
  refine Evn.bind (few8_f l) ?_
  cases hf : few8s l with
  | false => exact Evn.iff_neg (by decide) (Evn.some _)
  | true =>
    have h := small_few8 hf
    have hs : Small l 1000 5000 := small_up h (by omega) (by omega)
    refine Evn.iff_pos rfl ?_
    refine Evn.bind (plain_f hs) ?_
    refine Evn.bind (ref_plain hs) ?_
    refine Evn.bind (same_self _ (small_filter hs plainQ).1) ?_
    refine Evn.iff_pos rfl (Evn.iff_pos rfl ?_)
    obtain ⟨r1, c1, c2⟩ := both_coop h b
    obtain ⟨r2, c3, c4⟩ := both_coep h b
    refine Evn.bind (Evn.ret c1) ?_
    refine Evn.bind c2 ?_
    refine Evn.iff_pos (by simp) ?_
    refine Evn.bind (Evn.ret c3) ?_
    refine Evn.bind c4 ?_
    refine Evn.iff_pos (by simp) ?_
    refine Evn.bind (Evn.ret (iso_same x)) ?_
    refine Evn.bind (Evn.ret (ref_iso x)) ?_
    exact Evn.ret (by simp)
theorem CoopReads : ∀ (a0 : List S35) (a1 : Bool) (a2 : Int), a0.length * 32 ≤ 140737488351232 → (∀ x ∈ a0, x.f0.size ≤ 140737488351232 ∧ x.f1.size ≤ 140737488351232) → (Lit.int .i64 a2).wf = true → ∃ k, glacislaw08_CoopReads.f k a0 a1 a2 = some true :=
  fun l b x _ _ _ => CoopReadsAll l b x
end Go.Proofs.YtciigmlibnpeeaaGreatDoor.Pure
/- Arguments that are slices of lines of a head, slices of texts, or one line: what a row reads is what the printed contracts ask. -/
namespace Go.Proofs.YtciigmlibnpeeaaGreatDoor.ro
set_option linter.unusedVariables false
set_option linter.unusedSimpArgs false
set_option maxRecDepth 100000
open Go.ChangeShapes Go.WideShapes Go.ChangeAt Go.RowKit Go.Deep
open Go.Proofs.YtciigmlibnpeeaaGreatDoor.Q Go.Proofs.YtciigmlibnpeeaaGreatDoorW.PrintWords Go.Proofs.YtciigmlibnpeeaaGreatDoorW.PrintLast
section
variable {H : Type} {enc : TypeId × Value → H} {W : World}
theorem weights_all {P : Program} {e : TypeId} : ∀ {l : List (DataW H)} {i : Nat} {d : DataW H}, l[i]? = some d → ∀ n ∈ d.weights P e, n ∈ DataW.weightsAll P e l
  | d0 :: l, 0, d, h, n, hn => by
    simp only [List.getElem?_cons_zero, Option.some.injEq] at h
    subst h
    simp only [DataW.weightsAll, List.mem_append]
    exact Or.inl hn
  | d0 :: l, i + 1, d, h, n, hn => by
    simp only [List.getElem?_cons_succ] at h
    simp only [DataW.weightsAll, List.mem_append]
    exact Or.inr (weights_all h n hn)
  | [], _, _, h, _, _ => by simp at h
theorem open_hdrs {base : Nat} {v : Value} {d : DataW H} {p : List MemPlace} (hv : Value.okWide Tryz.prog W .any base 22 v) (h : DataW.Trod enc Tryz.prog W 0 (fun _ => true) true 22 v d p)
    (hz : ∀ n ∈ d.weights Tryz.prog 22, n ≤ reachBytes) :
    ∃ (A : Option Addr) (c : Nat) (l : List S35), v = .slice A l.length c ∧ l.length ≤ c ∧ Kd.C k35 W A l.length l ∧ l.length * 32 ≤ reachBytes ∧ ∀ x ∈ l, x.f0.size ≤ reachBytes ∧ x.f1.size ≤ reachBytes := by
  obtain ⟨a0, len0, cap0, rfl⟩ := okWide_slice Tryz.underlying22 hv
  obtain ⟨fuel, hf⟩ := h
  rcases open_slice_pairs Tryz.underlying22 Tryz.underlying35 (show Tryz.prog.cellsOf 35 = 2 by kernel_rfl) rfl rfl (show Tryz.prog.cellsOf 9 = 1 by kernel_rfl) (show Tryz.prog.cellsOf 9 = 1 by kernel_rfl) hf with ⟨hc, _⟩ | ⟨a, len, cap, m, n, V0, V1, D0, D1, P0, P1, hc, _, hl, hm, hmm, hx, hall⟩
  · simp [Value.cells] at hc
    obtain ⟨rfl, rfl, rfl⟩ := hc
    exact ⟨none, 0, [], rfl, Nat.le_refl _, ⟨rfl, by simp, fun hn => absurd hn (by simp)⟩, by simp, fun x hx => by cases hx⟩
  · simp [Value.cells] at hc
    obtain ⟨rfl, e2, e3⟩ := hc
    rw [e2, e3]
    clear hv hf
    have hlm : len ≤ m := by rw [hmm]; simp; omega
    have hd : d = .slice ((List.range len).map fun i => .agg [D0 i, D1 i]) ((List.range (m - len)).map fun j => .agg [D0 (len + j), D1 (len + j)]) := by
      have := congrArg Prod.fst hx
      exact this
    have each : ∀ i, i < len → ∃ x : S35, V0 i = .string x.f0 ∧ V1 i = .string x.f1 ∧ D0 i = .lit (.string x.f0.data.toList) ∧ D1 i = .lit (.string x.f1.data.toList) := by
      intro i hi
      obtain ⟨_, _, h0, h1⟩ := hall i (by omega)
      obtain ⟨s0, e0, x0, _⟩ := DataW.trod_string Tryz.underlying9 h0
      obtain ⟨s1, e1, x1, _⟩ := DataW.trod_string Tryz.underlying9 h1
      simp only [List.cons.injEq, and_true] at e0 e1
      simp only [Prod.mk.injEq] at x0 x1
      exact ⟨⟨s0, s1⟩, e0, e1, x0.1, x1.1⟩
    haveI : Inhabited S35 := ⟨z35⟩
    obtain ⟨F, hF⟩ := choose_lt each
    have hlen : ((List.range len).map F).length = len := by simp
    refine ⟨some a, cap, (List.range len).map F, by rw [hlen], by rw [hlen]; exact hl, ⟨rfl, by rw [hlen]; have := hm; unfold maxLen at this; omega, fun _ => ⟨a, rfl, ?_⟩⟩, ?_, ?_⟩
    · intro j x hj
      have hjl : j < len := by
        have := (List.getElem?_eq_some_iff.1 hj).1
        simpa using this
      have hx' : x = F j := by
        rw [List.getElem?_map, List.getElem?_range hjl] at hj
        exact (Option.some.inj hj).symm
      subst hx'
      obtain ⟨c0, c1, _, _⟩ := hall j (by omega)
      obtain ⟨e0, e1, _, _⟩ := hF j hjl
      refine ⟨[.string (F j).f0, .string (F j).f1], rfl, k35_mk W (F j), fun i u hu => ?_⟩
      match i with
      | 0 =>
        simp only [List.getElem?_cons_zero, Option.some.injEq] at hu
        subst hu
        rw [← e0]
        exact c0
      | 1 =>
        simp only [List.getElem?_cons_succ, List.getElem?_cons_zero, Option.some.injEq] at hu
        subst hu
        rw [← e1]
        exact c1
      | i + 2 => simp at hu
    · rw [hlen]
      have := hz ((len + (m - len)) * Tryz.prog.bytesOf 35) (by rw [hd]; simp [DataW.weights, Tryz.underlying22])
      rw [show Tryz.prog.bytesOf 35 = 32 by kernel_rfl] at this
      omega
    · intro x hx'
      obtain ⟨i, hi, rfl⟩ := List.mem_map.1 hx'
      have hi' := List.mem_range.1 hi
      obtain ⟨_, _, d0, d1⟩ := hF i hi'
      have hw : ∀ n ∈ (DataW.agg [D0 i, D1 i]).weights Tryz.prog 35, n ≤ reachBytes := by
        intro n hn
        refine hz n ?_
        rw [hd]
        simp only [DataW.weights, Tryz.underlying22, List.mem_cons, List.mem_append]
        right; left
        exact weights_all (i := i) (by rw [List.getElem?_map, List.getElem?_range hi']; rfl) n hn
      rw [d0, d1] at hw
      have h0 := hw (F i).f0.data.toList.length (by simp [DataW.weights, Tryz.underlying35, DataW.weightsEach])
      have h1 := hw (F i).f1.data.toList.length (by simp [DataW.weights, Tryz.underlying35, DataW.weightsEach])
      rw [Array.length_toList] at h0 h1
      exact ⟨h0, h1⟩
end
end Go.Proofs.YtciigmlibnpeeaaGreatDoor.ro
/- The law glacis/glacislaw08.CoopReads, for every input: its call returns true and leaves its arguments as they were; the row, and its card. Its conditions: the row's own. -/
namespace Go.Proofs.YtciigmlibnpeeaaGreatDoor.coopReads
open Go.ChangeShapes Go.WideShapes Go.ChangeAt Go.RowKit
open Go.Proofs.YtciigmlibnpeeaaGreatDoor.Q Go.Proofs.YtciigmlibnpeeaaGreatDoor.ro Go.Proofs.YtciigmlibnpeeaaGreatDoorW.PrintWords Go.Proofs.YtciigmlibnpeeaaGreatDoorW.PrintLast
open Go.ChangeMaps (open_string shut_string)
open Go.Proofs.YtciigmlibnpeeaaGreatDoor.rc
set_option linter.unusedVariables false
theorem walk (W : World) (A0 : Option Addr) (c0 : Nat) (a0 : List S35) (a1 : Bool) (a2 : Int) (C0 : Kd.C k35 W A0 a0.length a0) (lc0 : a0.length ≤ c0) (h0 : a0.length * 32 ≤ 140737488351232) (h1 : (∀ x ∈ a0, x.f0.size ≤ 140737488351232 ∧ x.f1.size ≤ 140737488351232)) (h2 : (Lit.int .i64 a2).wf = true) :
    Calls Tryz.prog 3 #[.slice A0 a0.length c0, .bool a1, .int .i64 a2] W fun e w' => e = .returned (.bool true) ∧ Below W.heap.size W w' := by
  obtain ⟨k, h⟩ := YtciigmlibnpeeaaGreatDoor.Pure.CoopReads a0 a1 a2 h0 h1 h2
  refine (YtciigmlibnpeeaaGreatDoor.Q.glacislaw08_CoopReads.calls k A0 c0 a0 a1 a2 true W C0 lc0 h).mono ?_
  rintro e w' ⟨rfl, hd⟩
  first | exact ⟨rfl, hd⟩ | exact ⟨rfl, hd.below⟩
set_option maxRecDepth 100000 in
theorem contract (H : Type) (enc : TypeId × Value → H) (W : World) (base : Nat) (args : Array Value) (ds gs : List (DataW H)) (before : List MemPlace)
    (hval : ∀ (j : Nat) t v, Tryz.f3.params[j]? = some t → args[j]? = some v → Value.okWide Tryz.prog W .any base t v)
    (hW : DataW.Whole enc Tryz.prog Tryz.f3.params.toList Rows.coopReadsSpec.vars false W args.toList ds gs before)
    (hsz : (DataW.weightsEach Tryz.prog (Tryz.f3.params.toList ++ Rows.coopReadsSpec.plain.varTypes Tryz.prog) (ds ++ gs)).all (· ≤ reachBytes) = true) :
    Calls Tryz.prog 3 args W fun e W' => ∃ v, e = .returned v ∧ Rows.coopReadsSpec.post enc Tryz.prog Tryz.f3 false true false false W args v W' := by
  have hW' := hW
  obtain ⟨p, q, hA0, hV, rfl, hfz, hnd⟩ := hW
  have hA : DataW.TrodAll enc Tryz.prog W 0 (fun _ => true) true Tryz.f3.params.toList args.toList ds p := hA0
  rw [Tryz.params3] at hA hval hsz
  obtain ⟨v0, vs0, d0, ds0, p0, q0, hargs, rfl, rfl, h0, r0⟩ := trodAll_cons hA
  obtain ⟨v1, vs1, d1, ds1, p1, q1, rfl, rfl, rfl, h1, r1⟩ := trodAll_cons r0
  obtain ⟨v2, vs2, d2, ds2, p2, q2, rfl, rfl, rfl, h2, r2⟩ := trodAll_cons r1
  obtain ⟨rfl, rfl, rfl⟩ := trodAll_nil r2
  obtain rfl : args = #[v0, v1, v2] := by cases args; simp_all
  obtain ⟨rfl, rfl⟩ := trodVars_none hV
  have g0 := h0
  have hz0 : ∀ n ∈ d0.weights Tryz.prog 22, n ≤ reachBytes := fun n hn => by
    have z := List.all_eq_true.1 hsz n (DataW.weights_mem_each (j := 0) (t := 22) rfl rfl n hn)
    simpa using z
  obtain ⟨A0, c0, a0, e0, lc0, C0, w0_0, w0_1⟩ := open_hdrs (hval 0 22 v0 rfl rfl) h0 hz0
  subst e0
  have t0 : ∀ W', Below W.heap.size W W' → DataW.Trod enc Tryz.prog W' 0 (fun b => decide (b < W.heap.size)) true 22 _ d0 p0 := fun W' hb => Below.trod laidOut (by kernel_rfl) (of_decide_eq_true (by kernel_rfl)) g0 hb (fun x hx => hW'.lt x (by simp [hx]))
  obtain ⟨a1, rfl, rfl, rfl⟩ := open_bool Tryz.underlying4 (hval 1 4 v1 rfl rfl) h1
  obtain ⟨a2, rfl, rfl, rfl, w2⟩ := open_int Tryz.underlying3 (hval 2 3 v2 rfl rfl) h2
  clear hA0
  refine (walk W A0 c0 a0 a1 a2 C0 lc0 w0_0 w0_1 w2).mono fun e W' ⟨he, bel⟩ => ?_
  subst he
  exact ⟨_, rfl, _, _, _, [], _, [], hW', trodAll_mk1 (shut_bool Tryz.underlying4 _), (trodAll_cons_mk (t0 _ bel) (trodAll_cons_mk (shut_bool Tryz.underlying4 _) (trodAll_cons_mk (shut_int Tryz.underlying3 w2) trodAll_mk0))), rfl, bel.frame _, fun h => by cases h⟩
theorem laid_met (os : Os) : laidMet Tryz.prog Rows.coopReadsRow.laid ((laidWorld os).forCall (fun _ _ => 0) ⟨#[], #[.slice none 0 0, .bool false, .int .i64 0], []⟩).memory :=
  laidMet_of_run' 8 (by kernel_rfl) (by kernel_rfl)
theorem reads (os : Os) {H : Type} (enc : TypeId × Value → H) : ∃ places, DataW.whole enc Tryz.prog ((laidWorld os).forCall (fun _ _ => 0) ⟨#[], #[.slice none 0 0, .bool false, .int .i64 0], []⟩).memory Tryz.f3.params.toList Rows.coopReadsSpec.vars false (#[.slice none 0 0, .bool false, .int .i64 0] : Array Value).toList 8 = some ([.nil, .lit (.bool false), .lit (.int .i64 0)], [], places) :=
  ⟨[], by kernel_rfl⟩
set_option maxRecDepth 100000 in
theorem lifted (os : Os) (started : os.Started) (H : Type) (enc : TypeId × Value → H) (F : Stop.Interp) :
    ReturnsInHanded {} Tryz.checked os 3 .any ((OpenSpec.ofChange Rows.coopReadsSpec).preRow enc Tryz.prog Tryz.f3 Rows.coopReadsRow.domain false Rows.coopReadsRow.laid) (((OpenSpec.ofChange Rows.coopReadsSpec).at F).post enc Tryz.prog Tryz.f3 false true false false) := by
  obtain ⟨places, hx⟩ := reads os enc
  refine returnsInHanded_of_row (C := Tryz.checked) (s := (OpenSpec.ofChange Rows.coopReadsSpec)) own started (by kernel_rfl) Tryz.func3
    (witness_row_at (enc := enc) (C := Tryz.checked) false (laidWorld os) #[.slice none 0 0, .bool false, .int .i64 0] rfl (by kernel_rfl) (by kernel_rfl) (by kernel_rfl)
      (OpenSpec.preRow_of_cond 8 hx (by kernel_rfl) (fun k hk => by cases hk) (by kernel_rfl) (laid_met os))) ?_
  intro W base args ds gs before hval hW _ hcond hsz hL _ _
  exact contract H enc W base args ds gs before hval hW hsz
theorem said : Rows.CoopReadsSaid :=
  OpenClaim.holds_of_cond 3 Tryz.f3 rfl rfl rfl rfl rfl rfl rfl ⟨rfl, rfl, rfl, rfl, rfl⟩ rfl rfl rfl rfl rfl (by kernel_rfl) Tryz.func3 (by kernel_rfl)
    (of_decide_eq_true (by kernel_rfl)) (by unfold Func.isWrapper; first | (rw [if_pos (by decide +kernel)]; kernel_rfl) | (rw [if_neg (by decide +kernel)]; exact ⟨rfl, rfl⟩))
    (fun os started H enc _ F => by rw [OpenClaim.pre_eq_preRow]; exact lifted os started H enc F)
theorem plain (f : FuncId) (fn : Func) (hf : Tryz.pinned.checked.prog.funcNamed "glacis/glacislaw08.CoopReads" = some f) (hfn : Tryz.pinned.checked.prog.funcs[f]? = some fn) :
    true = Tryz.pinned.checked.prog.looks [] ∧ ∀ (j : Nat) t, fn.params[j]? = some t → Tryz.pinned.checked.prog.wantsStandIn t = false := by
  obtain rfl : f = 3 := Option.some.inj ((show Tryz.prog.funcNamed "glacis/glacislaw08.CoopReads" = some 3 by kernel_rfl).symm.trans hf) |>.symm
  obtain rfl : fn = Tryz.f3 := (Option.some.inj (Tryz.func3.symm.trans hfn)).symm
  refine ⟨by kernel_rfl, fun j t ht => ?_⟩
  rw [Tryz.params3] at ht
  have hm : t ∈ [22, 4, 3] := by simpa using Array.mem_of_getElem? ht
  have hall : ([22, 4, 3].all fun u => !Tryz.prog.wantsStandIn u) = true := by kernel_rfl
  exact (show Tryz.prog.wantsStandIn t = false by simpa using List.all_eq_true.1 hall t hm)
/-- THE CARD. -/
theorem card : Rows.CoopReadsCardSaid :=
  Claim7.holds_tied_plain_at .later [] _ _ _ _ said (fun _ h => by cases h) (by kernel_rfl) (fun _ h => by cases h) coopReads_row_tie rfl ⟨rfl, rfl⟩ (by kernel_rfl) rfl plain (by kernel_rfl)
#print axioms card
end Go.Proofs.YtciigmlibnpeeaaGreatDoor.coopReads
