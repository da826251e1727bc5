/- The law SfitemReads: its row and card. Its conditions: the row's own. -/
import Derived.Test.YtbbaokjkmcfceaaGreatDoorZr4
import Derived.Lib.LaidTab
import Derived.Stop.LaidErr
/- Chapter 5: what the reader has read is such a text; parameters; whole items. -/
namespace Go.Proofs.YtbbaokjkmcfceaaGreatDoor.Pl
open Go.RowKit Go.Proofs.YtbbaokjkmcfceaaGreatDoor.Q Go.Proofs.YtbbaokjkmcfceaaGreatDoor.Sf Go.Proofs.YtbbaokjkmcfceaaGreatDoorW.PrintWords Go.Proofs.YtbbaokjkmcfceaaGreatDoorW.PrintLast
set_option linter.unusedVariables false
set_option linter.unusedSimpArgs false
theorem u_eq {c d : UInt8} (h : (c.toNat : Int) = (d.toNat : Int)) : c = d := UInt8.toNat_inj.1 (by omega)
theorem cons_of (s : ByteArray) (h : 0 < s.size) : ∃ c r, L s = c :: r := by
  cases e : L s with
  | nil => exact absurd h (size_nil e)
  | cons c r => exact ⟨c, r, rfl⟩
theorem qt_inv : ∀ (d : Nat) (s : ByteArray) (xs : List Int) (o t : ByteArray), qF d s xs = some (o, t) → ∃ q m, L s = q ++ L t ∧ QT q m ∧ L o = L (strOfNums xs) ++ m
  | 0, s, xs, o, t, h => by rw [qF] at h; cases h
  | d + 1, s, xs, o, t, h => by
    rw [qF] at h
    by_cases h0 : 0 < s.size
    · rw [if_pos h0] at h
      obtain ⟨c, r, e⟩ := cons_of s h0
      have et : L (tl s) = r := by rw [L_tl, e]; rfl
      rw [bt0 e] at h
      by_cases c34 : (c.toNat : Int) = 34
      · rw [if_pos c34] at h
        obtain ⟨rfl, rfl⟩ := Prod.mk.inj (Option.some.inj h)
        have : c = 34 := u_eq c34
        subst this
        exact ⟨[34], [], by rw [et, e]; rfl, QT.stop, by simp⟩
      · rw [if_neg c34] at h
        by_cases bad : (c.toNat : Int) < 32 ∨ 126 < (c.toNat : Int) ∨ ((c.toNat : Int) = 92 ∧ ¬ (0 < (tl s).size ∧ wiP (bt (tl s) 0) ⟨#[34, 92]⟩ = true))
        · rw [if_pos bad] at h; cases h
        · rw [if_neg bad] at h
          by_cases c92 : (c.toNat : Int) = 92
          · rw [if_pos c92] at h
            have ok : 0 < (tl s).size ∧ wiP (bt (tl s) 0) ⟨#[34, 92]⟩ = true := Classical.byContradiction fun k => bad (Or.inr (Or.inr ⟨c92, k⟩))
            obtain ⟨c2, r2, e2⟩ := cons_of (tl s) ok.1
            have ok2 := ok.2
            rw [bt0 e2, wiQ] at ok2
            rw [bt0 e2] at h
            obtain ⟨q, m, a1, a2, a3⟩ := qt_inv d _ _ _ _ h
            have e3 : L (tl (tl s)) = r2 := by rw [L_tl, e2]; rfl
            have : c = 92 := u_eq c92
            subst this
            refine ⟨92 :: c2 :: q, c2 :: m, ?_, QT.esc c2 q m (of_decide_eq_true ok2) a2, ?_⟩
            · rw [e3] at a1; rw [e, ← et, e2, a1]; rfl
            · rw [a3, num_app xs c2 _ rfl]; simp
          · rw [if_neg c92] at h
            obtain ⟨q, m, a1, a2, a3⟩ := qt_inv d _ _ _ _ h
            refine ⟨c :: q, c :: m, ?_, QT.plain c q m (by omega) (by omega) (by omega) (by omega) a2, ?_⟩
            · rw [et] at a1; rw [e, a1]; rfl
            · rw [a3, num_app xs c _ rfl]; simp
    · rw [if_neg h0] at h; cases h
theorem quoted_inv {s t : ByteArray} {v : Int × Int × ByteArray} (h : rdQuoted s = some (v, t)) : ∃ q, L s = q ++ L t ∧ QT q (L v.2.2) ∧ v.1 = 3 ∧ v.2.1 = 0 := by
  unfold rdQuoted at h
  obtain ⟨⟨o, t'⟩, hq, hm⟩ := Option.map_eq_some_iff.1 h
  unfold mkQ at hm
  obtain ⟨rfl, rfl⟩ := Prod.mk.inj hm
  obtain ⟨q, m, a1, a2, a3⟩ := qt_inv _ _ _ _ _ hq
  refine ⟨q, a1, ?_, rfl, rfl⟩
  have : L (strOfNums []) = [] := rfl
  rw [this] at a3
  simpa [a3] using a2
theorem number_inv {s t : ByteArray} {v : Int × Int × ByteArray} (h : rdNumber s = some (v, t)) : ∃ u, L s = u ++ L t ∧ VT u v.1 v.2.1 (L v.2.2) := by
  obtain ⟨sg, h0, hs, hg⟩ : ∃ sg : List UInt8, (sg = [] ∨ sg = [45]) ∧ L s = sg ++ L (atR s 45) ∧ (if atF s 45 = true then (-1 : Int) else 1) = sgV sg := by
    unfold atR
    cases e : atF s 45 with
    | false => exact ⟨[], Or.inl rfl, rfl, rfl⟩
    | true =>
      obtain ⟨c, r, e1, e2⟩ := atF_ex e
      have : c = 45 := u_eq e2
      subst this
      exact ⟨[45], Or.inr rfl, by rw [if_pos rfl, L_tl, e1]; rfl, rfl⟩
  unfold rdNumber at h
  simp only [] at h
  rw [hg] at h
  have hw := L_tak dgP (atR s 45)
  have hd := L_drp dgP (atR s 45)
  have hsp := span_split (fun c : UInt8 => dgP c.toNat) (L (atR s 45))
  have hall := tak_all dgP (atR s 45)
  rw [← hw, ← hd] at hsp
  generalize takB dgP (atR s 45) = w at *
  generalize drpB dgP (atR s 45) = s2 at *
  by_cases hw0 : w.size = 0
  · rw [if_pos hw0] at h; cases h
  · rw [if_neg hw0] at h
    have hwn : L w ≠ [] := by rw [size_L] at hw0; intro e; rw [e] at hw0; exact hw0 rfl
    cases e : atF s2 46 with
    | true =>
      rw [e, if_pos rfl] at h
      obtain ⟨c, r, e1, e2⟩ := atF_ex e
      have : c = 46 := u_eq e2
      subst this
      have hw2 := L_tak dgP (tl s2)
      have hd2 := L_drp dgP (tl s2)
      have hsp2 := span_split (fun c : UInt8 => dgP c.toNat) (L (tl s2))
      have hall2 := tak_all dgP (tl s2)
      rw [← hw2, ← hd2] at hsp2
      have et : L (tl s2) = r := by rw [L_tl, e1]; rfl
      generalize takB dgP (tl s2) = p at *
      generalize drpB dgP (tl s2) = s3 at *
      by_cases hb : w.size > 12 ∨ p.size = 0 ∨ p.size > 3
      · rw [if_pos hb] at h; cases h
      · rw [if_neg hb] at h
        obtain ⟨rfl, rfl⟩ := Prod.mk.inj (Option.some.inj h)
        simp only [size_L] at hb
        refine ⟨sg ++ (L w ++ 46 :: L p), ?_, ?_⟩
        · rw [hs, ← hsp, e1, ← et, ← hsp2]; simp
        · have := VT.dec sg (L w) (L p) h0 hwn hall (by omega) (by intro k; rw [k] at hb; exact hb (Or.inr (Or.inl rfl))) hall2 (by omega)
          rw [numV_L, L_app, L_app, zer_L, size_L]
          exact this
    | false =>
      rw [e, if_neg (by decide)] at h
      by_cases hb : w.size > 15
      · rw [if_pos hb] at h; cases h
      · rw [if_neg hb] at h
        obtain ⟨rfl, rfl⟩ := Prod.mk.inj (Option.some.inj h)
        rw [size_L] at hb
        exact ⟨sg ++ L w, by rw [hs, ← hsp]; simp, VT.int sg (L w) h0 hwn hall (by omega)⟩
theorem le_tok (c : UInt8) (h : leP c.toNat = true ∨ (c.toNat : Int) = 42) : toU c = true := by
  have := allU (fun c : UInt8 => !(leP c.toNat || decide ((c.toNat : Int) = 42)) || toU c) (by decide +kernel) c
  simp only [Bool.or_eq_true, Bool.not_eq_true', Bool.or_eq_false_iff, decide_eq_false_iff_not] at this
  rcases this with ⟨a, b⟩ | a
  · rcases h with h | h
    · rw [h] at a; cases a
    · exact absurd h b
  · exact a
theorem value_inv {s t : ByteArray} {v : Int × Int × ByteArray} (h : rdValue s = some (v, t)) : ∃ u, L s = u ++ L t ∧ VT u v.1 v.2.1 (L v.2.2) := by
  unfold rdValue at h
  by_cases h0 : 0 < s.size
  · rw [if_pos h0] at h
    obtain ⟨c, r, e⟩ := cons_of s h0
    have et : L (tl s) = r := by rw [L_tl, e]; rfl
    rw [bt0 e] at h
    by_cases c1 : (c.toNat : Int) = 45 ∨ dgP c.toNat = true
    · rw [if_pos c1] at h; exact number_inv h
    rw [if_neg c1] at h
    by_cases c2 : leP c.toNat = true ∨ (c.toNat : Int) = 42
    · rw [if_pos c2] at h
      obtain ⟨rfl, rfl⟩ := Prod.mk.inj (Option.some.inj h)
      have hw := L_tak tokP s
      have hd := L_drp tokP s
      have hsp := span_split (fun c : UInt8 => tokP c.toNat) (L s)
      rw [← hw, ← hd] at hsp
      refine ⟨L (takB tokP s), hsp.symm, ?_⟩
      have hc : L (takB tokP s) = c :: r.takeWhile (fun c => tokP c.toNat) := by
        rw [hw, e, List.takeWhile_cons, show tokP c.toNat = true from le_tok c c2]; simp
      have hall : ∀ x ∈ L (takB tokP s), toU x = true := tak_all tokP s
      show VT (L (takB tokP s)) 4 0 (L (takB tokP s))
      rw [hc] at hall ⊢
      exact VT.tok c _ c2 hall
    rw [if_neg c2] at h
    by_cases c3 : (c.toNat : Int) = 34
    · rw [if_pos c3] at h
      have : c = 34 := u_eq c3
      subst this
      obtain ⟨q, a1, a2, a3, a4⟩ := quoted_inv h
      refine ⟨34 :: q, by rw [e, ← et, a1]; rfl, ?_⟩
      rw [a3, a4]; exact VT.quo q _ a2
    rw [if_neg c3] at h
    by_cases c4 : (c.toNat : Int) = 58
    · rw [if_pos c4] at h
      have : c = 58 := u_eq c4
      subst this
      unfold rdBytes at h
      have hw := L_tak baP (tl s)
      have hd := L_drp baP (tl s)
      have hsp := span_split (fun c : UInt8 => baP c.toNat) (L (tl s))
      have hall : ∀ x ∈ L (takB baP (tl s)), baU x = true := tak_all baP (tl s)
      rw [← hw, ← hd] at hsp
      cases e5 : atF (drpB baP (tl s)) 58 with
      | false => rw [e5, if_neg (by decide)] at h; cases h
      | true =>
        rw [e5, if_pos rfl] at h
        obtain ⟨rfl, rfl⟩ := Prod.mk.inj (Option.some.inj h)
        obtain ⟨c', r', f1, f2⟩ := atF_ex e5
        have : c' = 58 := u_eq f2
        subst this
        refine ⟨58 :: (L (takB baP (tl s)) ++ [58]), ?_, VT.byt _ hall⟩
        rw [L_tl, f1, e, ← et, ← hsp, f1]; simp
    rw [if_neg c4] at h
    by_cases c5 : (c.toNat : Int) = 63
    · rw [if_pos c5] at h
      have : c = 63 := u_eq c5
      subst this
      unfold rdBool at h
      cases e5 : atF (tl s) 49 with
      | true =>
        rw [e5, if_pos rfl] at h
        obtain ⟨rfl, rfl⟩ := Prod.mk.inj (Option.some.inj h)
        obtain ⟨c', r', f1, f2⟩ := atF_ex e5
        have : c' = 49 := u_eq f2
        subst this
        exact ⟨[63, 49], by rw [L_tl, f1, e, ← et, f1]; rfl, VT.one⟩
      | false =>
        rw [e5, if_neg (by decide)] at h
        cases e6 : atF (tl s) 48 with
        | true =>
          rw [e6, if_pos rfl] at h
          obtain ⟨rfl, rfl⟩ := Prod.mk.inj (Option.some.inj h)
          obtain ⟨c', r', f1, f2⟩ := atF_ex e6
          have : c' = 48 := u_eq f2
          subst this
          exact ⟨[63, 48], by rw [L_tl, f1, e, ← et, f1]; rfl, VT.zero⟩
        | false => rw [e6, if_neg (by decide)] at h; cases h
    · rw [if_neg c5] at h; cases h
  · rw [if_neg h0] at h; cases h
theorem key_first (c : UInt8) (h : smP c.toNat = true ∨ (c.toNat : Int) = 42) : keU c = true ∧ c ≠ 32 := by
  have := allU (fun c : UInt8 => !(smP c.toNat || decide ((c.toNat : Int) = 42)) || (keU c && !decide (c = 32))) (by decide +kernel) c
  simp only [Bool.or_eq_true, Bool.not_eq_true', Bool.or_eq_false_iff, decide_eq_false_iff_not, Bool.and_eq_true] at this
  rcases this with ⟨a, b⟩ | a
  · rcases h with h | h
    · rw [h] at a; cases a
    · exact absurd h b
  · exact a
theorem key_inv {s k t : ByteArray} (h : rdKey s = some (k, t)) : L s = L k ++ L t ∧ KT (L k) := by
  unfold rdKey at h
  by_cases h0 : 0 < s.size ∧ (smP (bt s 0) = true ∨ bt s 0 = 42)
  · rw [if_pos h0] at h
    obtain ⟨rfl, rfl⟩ := Prod.mk.inj (Option.some.inj h)
    obtain ⟨c, r, e⟩ := cons_of s h0.1
    have h1 := h0.2
    rw [bt0 e] at h1
    have hw := L_tak keP s
    have hd := L_drp keP s
    have hsp := span_split (fun c : UInt8 => keP c.toNat) (L s)
    rw [← hw, ← hd] at hsp
    have hall : ∀ x ∈ L (takB keP s), keU x = true := tak_all keP s
    refine ⟨hsp.symm, c, r.takeWhile (fun c => keP c.toNat), ?_, h1, hall⟩
    rw [hw, e, List.takeWhile_cons, show keP c.toNat = true from (key_first c h1).1]; simp
  · rw [if_neg h0] at h; cases h
/-- What text turns what parameters to what. -/
inductive PT : List UInt8 → List S43 → List S43 → Prop
  | nil (l : List S43) : PT [] l l
  | flag (b k u : List UInt8) (l l1 : List S43) (hb : ∀ c ∈ b, c = 32) (hk : KT k) (h : PT u (withP (B k) l ⟨B k, 6, 1, ⟨#[]⟩⟩) l1) : PT (59 :: (b ++ (k ++ u))) l l1
  | val (b k w u : List UInt8) (n i : Int) (t : List UInt8) (l l1 : List S43) (hb : ∀ c ∈ b, c = 32) (hk : KT k) (hv : VT w n i t) (h : PT u (withP (B k) l ⟨B k, n, i, B t⟩) l1) : PT (59 :: (b ++ (k ++ (61 :: (w ++ u))))) l l1
theorem all_of_take {q : UInt8 → Bool} (l : List UInt8) : ∀ c ∈ l.takeWhile q, q c = true := fun c hc => mem_takeWhile q l c hc
theorem pt_inv : ∀ (d : Nat) (s : ByteArray) (l l1 : List S43) (t : ByteArray), pF d s l = some (l1, t) → ∃ u, L s = u ++ L t ∧ PT u l l1 ∧ atF t 59 = false
  | 0, s, l, l1, t, h => by rw [pF] at h; cases h
  | d + 1, s, l, l1, t, h => by
    rw [pF] at h
    cases e : atF s 59 with
    | false =>
      rw [e, if_neg (by decide)] at h
      obtain ⟨rfl, rfl⟩ := Prod.mk.inj (Option.some.inj h)
      exact ⟨[], rfl, PT.nil _, e⟩
    | true =>
      rw [e, if_pos rfl] at h
      obtain ⟨c, r, e1, e2⟩ := atF_ex e
      have : c = 59 := u_eq e2
      subst this
      have et : L (tl s) = r := by rw [L_tl, e1]; rfl
      obtain ⟨⟨k, t1⟩, hk, h⟩ := Option.bind_eq_some_iff.1 h
      simp only [] at h
      obtain ⟨a1, a2⟩ := key_inv hk
      have hsp := span_split (fun c : UInt8 => spP c.toNat) (L (tl s))
      rw [← L_drp spP (tl s), a1] at hsp
      have hb : ∀ c ∈ (L (tl s)).takeWhile (fun c : UInt8 => spP c.toNat), c = 32 := by
        intro c hc
        have := all_of_take (q := fun c : UInt8 => spP c.toNat) (L (tl s)) c hc
        unfold spP at this
        exact u_eq (beq_iff_eq.1 this)
      generalize List.takeWhile (fun c : UInt8 => spP c.toNat) (L (tl s)) = bl at hsp hb
      cases e3 : atF t1 61 with
      | true =>
        rw [e3, if_pos rfl] at h
        obtain ⟨⟨v, t2⟩, hv, h⟩ := Option.bind_eq_some_iff.1 h
        obtain ⟨c', r', f1, f2⟩ := atF_ex e3
        have : c' = 61 := u_eq f2
        subst this
        have et1 : L (tl t1) = r' := by rw [L_tl, f1]; rfl
        obtain ⟨w, b1, b2⟩ := value_inv hv
        obtain ⟨u, g1, g2, g3⟩ := pt_inv d _ _ _ _ h
        simp only [] at g1 g2
        refine ⟨59 :: (bl ++ (L k ++ (61 :: (w ++ u)))), ?_, PT.val _ _ w u v.1 v.2.1 (L v.2.2) _ _ hb a2 b2 (by rw [B_L, B_L]; exact g2), g3⟩
        rw [e1, ← et, ← hsp, f1, ← et1, b1, g1]
        simp
      | false =>
        rw [e3, if_neg (by decide)] at h
        obtain ⟨u, g1, g2, g3⟩ := pt_inv d _ _ _ _ h
        refine ⟨59 :: (bl ++ (L k ++ u)), ?_, PT.flag _ _ u _ _ hb a2 (by rw [B_L]; exact g2), g3⟩
        rw [e1, ← et, ← hsp, g1]
        simp
/-- What text tells what item. -/
def IT (u : List UInt8) (n i : Int) (t : List UInt8) (l : List S43) : Prop := ∃ a b, u = a ++ b ∧ VT a n i t ∧ PT b [] l
theorem next_inv {s : ByteArray} {v : Int × Int × ByteArray} {l : List S43} {t : ByteArray} (h : rdNext s = some (v, l, t)) : ∃ u, L s = u ++ L t ∧ IT u v.1 v.2.1 (L v.2.2) l ∧ atF t 59 = false := by
  unfold rdNext at h
  obtain ⟨⟨v', t1⟩, h1, h⟩ := Option.bind_eq_some_iff.1 h
  obtain ⟨⟨l', t2⟩, h2, h⟩ := Option.bind_eq_some_iff.1 h
  have h := Option.some.inj h
  simp only [Prod.mk.injEq] at h
  obtain ⟨rfl, rfl, rfl⟩ := h
  obtain ⟨a, a1, a2⟩ := value_inv h1
  obtain ⟨b, b1, b2, b3⟩ := pt_inv _ _ _ _ _ h2
  exact ⟨a ++ b, by rw [a1, b1]; simp, ⟨a, b, rfl, a2, b2⟩, b3⟩
theorem trim_len (u : List UInt8) : (Lib.trimB u 32).length ≤ u.length := by
  unfold Lib.trimB Lib.trimLeftB Lib.trimRightB
  have h1 := (List.dropWhile_sublist (fun c : UInt8 => c == 32) (l := (u.reverse.dropWhile (· == 32)).reverse)).length_le
  have h2 := (List.dropWhile_sublist (fun c : UInt8 => c == 32) (l := u.reverse)).length_le
  simp only [List.length_reverse] at h1 h2
  omega
end Go.Proofs.YtbbaokjkmcfceaaGreatDoor.Pl
/- Chapter 5: values' text, there and back. -/
namespace Go.Proofs.YtbbaokjkmcfceaaGreatDoor.Pl
open Go.RowKit Go.Proofs.YtbbaokjkmcfceaaGreatDoor.Q Go.Proofs.YtbbaokjkmcfceaaGreatDoor.Sf Go.Proofs.YtbbaokjkmcfceaaGreatDoorW.PrintWords Go.Proofs.YtbbaokjkmcfceaaGreatDoorW.PrintLast
set_option linter.unusedVariables false
set_option linter.unusedSimpArgs false
theorem numL_fold : ∀ (b : List UInt8) (acc : Nat), b.foldl (fun a c => a * 10 + (c.toNat - 48)) acc = acc * 10 ^ b.length + numL b
  | [], acc => by simp [numL]
  | c :: b, acc => by
    have h1 := numL_fold b (acc * 10 + (c.toNat - 48))
    have h2 := numL_fold b (0 * 10 + (c.toNat - 48))
    have e : numL (c :: b) = b.foldl (fun a c => a * 10 + (c.toNat - 48)) (0 * 10 + (c.toNat - 48)) := rfl
    rw [List.foldl_cons, h1, e, h2, List.length_cons, Nat.pow_succ]
    simp only [Nat.add_mul, Nat.zero_mul, Nat.zero_add, Nat.mul_assoc, Nat.mul_comm 10 (10 ^ b.length), Nat.add_assoc]
theorem numL_app (a b : List UInt8) : numL (a ++ b) = numL a * 10 ^ b.length + numL b := by
  have : numL (a ++ b) = b.foldl (fun a c => a * 10 + (c.toNat - 48)) (numL a) := by unfold numL; rw [List.foldl_append]
  rw [this, numL_fold]
theorem numL_bound (l : List UInt8) (h : ∀ c ∈ l, dgU c = true) : numL l < 10 ^ l.length := by
  have := num_bound l 0 h
  rw [Nat.zero_add, Nat.one_mul] at this
  exact this
theorem L_toList (s : ByteArray) : s.toList = L s := Lib.toList_data s
theorem zer_len (n : Nat) (h : n ≤ 3) : (zerL n).length = 3 - n := by unfold zerL; simp
theorem take_snoc {α : Type} (l : List α) (k : Nat) (h : k < l.length) : l.take (k + 1) = l.take k ++ [l[k]] := by
  rw [List.take_add_one, List.getElem?_eq_getElem h]; rfl
end Go.Proofs.YtbbaokjkmcfceaaGreatDoor.Pl
/- Chapter 5: an item is the same as itself; how many parameters a text has. -/
namespace Go.Proofs.YtbbaokjkmcfceaaGreatDoor.Pl
open Go.RowKit Go.Proofs.YtbbaokjkmcfceaaGreatDoor.Q Go.Proofs.YtbbaokjkmcfceaaGreatDoor.Sf Go.Proofs.YtbbaokjkmcfceaaGreatDoorW.PrintWords Go.Proofs.YtbbaokjkmcfceaaGreatDoorW.PrintLast
set_option linter.unusedVariables false
set_option linter.unusedSimpArgs false
theorem wrap_next (j : Nat) (h : j ≤ 100000) : wrap64 ((j : Int) + 1) = ((j + 1 : Nat) : Int) := by
  unfold wrap64; omega
theorem same_loop (l : List S43) (hl : l.length ≤ 100000) : ∀ (m j k : Nat), j + m = l.length → m < k → glacisref05_SameParams.l0 k l l (j : Int) = some true
  | 0, j, k, hm, hk => by
    obtain ⟨k, rfl⟩ : ∃ k', k = k' + 1 := ⟨k - 1, by omega⟩
    rw [glacisref05_SameParams.l0, if_neg (by omega)]
  | m + 1, j, k, hm, hk => by
    obtain ⟨k, rfl⟩ : ∃ k', k = k' + 1 := ⟨k - 1, by omega⟩
    rw [glacisref05_SameParams.l0, if_pos (by omega), if_pos (by omega), if_pos (by omega), if_neg (by simp), wrap_next j (by omega)]
    exact same_loop l hl m (j + 1) k (by omega) (by omega)
theorem same_refl (l : List S43) (hl : l.length ≤ 100000) (n i : Int) (t : ByteArray) (k : Nat) (hk : l.length < k) : glacisref05_Same.f k n i t l n i t l = some true := by
  unfold glacisref05_Same.f glacisref05_SameParams.f
  rw [if_pos rfl]
  have := same_loop l hl l.length 0 k (by omega) hk
  rw [show ((0 : Nat) : Int) = 0 from rfl] at this
  rw [this]
  simp only [Option.bind_some]
  rw [if_pos trivial, if_pos trivial, if_pos trivial]
  simp
theorem pt_count {u : List UInt8} {l l1 : List S43} (h : PT u l l1) : l1.length ≤ l.length + u.length := by
  induction h with
  | nil => simp
  | flag b k u l l1 hb hk h ih =>
    have := withP_len (B k) l ⟨B k, 6, 1, ⟨#[]⟩⟩
    simp only [List.length_cons, List.length_append]; omega
  | val b k w u n i t l l1 hb hk hv h ih =>
    have := withP_len (B k) l ⟨B k, n, i, B t⟩
    simp only [List.length_cons, List.length_append]; omega
theorem it_count {u : List UInt8} {n i : Int} {t : List UInt8} {l : List S43} (h : IT u n i t l) : l.length ≤ u.length := by
  obtain ⟨a, b, rfl, hv, hp⟩ := h
  have := pt_count hp
  simp at this ⊢; omega
end Go.Proofs.YtbbaokjkmcfceaaGreatDoor.Pl
/- Chapter 5: parameters' text, there and back. -/
namespace Go.Proofs.YtbbaokjkmcfceaaGreatDoor.Pl
open Go.RowKit Go.Proofs.YtbbaokjkmcfceaaGreatDoor.Q Go.Proofs.YtbbaokjkmcfceaaGreatDoor.Sf Go.Proofs.YtbbaokjkmcfceaaGreatDoorW.PrintWords Go.Proofs.YtbbaokjkmcfceaaGreatDoorW.PrintLast
set_option linter.unusedVariables false
set_option linter.unusedSimpArgs false
theorem rd_at5 (l : List S43) (j : Nat) (h : j < l.length) : rd_T43 l (j : Int) = l[j] := by
  unfold rd_T43; simp [List.getD_eq_getElem?_getD, h]
/-- No key twice. -/
def Dist (l : List S43) : Prop := (l.map (·.f0)).Nodup
theorem set_keys (l : List S43) (i : Nat) (p : S43) (hl : i < l.length) (hp : p.f0 = l[i].f0) : (l.set i p).map (·.f0) = l.map (·.f0) := by
  rw [List.map_set, hp]
  apply List.ext_getElem?
  intro j
  rw [List.getElem?_set]
  split
  · rename_i e; subst e; simp [hl]
  · rfl
theorem dist_with (k : ByteArray) (l : List S43) (p : S43) (hp : p.f0 = k) (h : Dist l) : Dist (withP k l p) := by
  unfold withP
  split
  · rename_i i hi
    obtain ⟨hl, h1, _⟩ := List.findIdx?_eq_some_iff_getElem.1 hi
    have hk : l[i].f0 = k := of_decide_eq_true h1
    unfold Dist at h ⊢
    rw [set_keys l i p hl (hp.trans hk.symm)]; exact h
  · rename_i hn
    unfold Dist at h ⊢
    rw [List.map_append, List.nodup_append]
    refine ⟨h, by simp, ?_⟩
    intro a ha b hb e
    obtain ⟨q, hq, rfl⟩ := List.mem_map.1 ha
    have := List.findIdx?_eq_none_iff.1 hn q hq
    have hb' : b = p.f0 := by simpa using hb
    have := of_decide_eq_false this
    exact this (e.trans (hb'.trans hp))
end Go.Proofs.YtbbaokjkmcfceaaGreatDoor.Pl
/- Chapter 5: what the document's own reader gives is what the program's reader gives. -/
namespace Go.Proofs.YtbbaokjkmcfceaaGreatDoor.Pl
open Go.RowKit Go.Proofs.YtbbaokjkmcfceaaGreatDoor.Q Go.Proofs.YtbbaokjkmcfceaaGreatDoor.Sf Go.Proofs.YtbbaokjkmcfceaaGreatDoorW.PrintWords Go.Proofs.YtbbaokjkmcfceaaGreatDoorW.PrintLast
set_option linter.unusedVariables false
set_option linter.unusedSimpArgs false
theorem up {α : Type} {f : Nat → Option α} (hm : ∀ k, LeO (f k) (f (k + 1))) {k0 : Nat} {r : α} (h : f k0 = some r) : ∀ k, k0 ≤ k → f k = some r := by
  intro k hk
  induction k with
  | zero => obtain rfl : k0 = 0 := by omega
            exact h
  | succ k ih =>
    rcases Nat.lt_or_ge k k0 with c | c
    · obtain rfl : k0 = k + 1 := by omega
      exact h
    · exact hm k r (ih c)
theorem bt_u (s : ByteArray) (j : Nat) (h : j < s.size) : ∃ c : UInt8, bt s (j : Int) = (c.toNat : Int) := by
  have hl : j < s.data.toList.length := by rw [← Lib.size_eq]; exact h
  exact ⟨_, bt_list s j hl⟩
theorem letter_u (c : UInt8) : glacisref01_Letter.f c.toNat = some (leP c.toNat) :=
  of_decide_eq_true (allU (fun c : UInt8 => decide (glacisref01_Letter.f c.toNat = some (leP c.toNat))) (by decide +kernel) c)
theorem digit_u (c : UInt8) : glacisref01_Digit.f c.toNat = some (dgP c.toNat) :=
  of_decide_eq_true (allU (fun c : UInt8 => decide (glacisref01_Digit.f c.toNat = some (dgP c.toNat))) (by decide +kernel) c)
theorem base_u (c : UInt8) : glacisref05_base.f c.toNat = some (baP c.toNat) :=
  of_decide_eq_true (allU (fun c : UInt8 => decide (glacisref05_base.f c.toNat = some (baP c.toNat))) (by decide +kernel) c)
theorem tokens_u (c : UInt8) (k : Nat) (hk : 16 ≤ k) : glacisref05_tokens.f k c.toNat = some (tokP c.toNat) := by
  have h := of_decide_eq_true (allU (fun c : UInt8 => decide (glacisref05_tokens.f 16 c.toNat = some (tokP c.toNat))) (by decide +kernel) c)
  exact up (f := fun k => glacisref05_tokens.f k c.toNat) (fun k => glacisref05_tokens.mono _ k) h k hk
theorem small_u (c : UInt8) : glacisref05_small.f c.toNat true = some (smP c.toNat || decide ((c.toNat : Int) = 42)) :=
  of_decide_eq_true (allU (fun c : UInt8 => decide (glacisref05_small.f c.toNat true = some (smP c.toNat || decide ((c.toNat : Int) = 42)))) (by decide +kernel) c)
theorem small_v (c : UInt8) : glacisref05_small.f c.toNat false = some (keP c.toNat) :=
  of_decide_eq_true (allU (fun c : UInt8 => decide (glacisref05_small.f c.toNat false = some (keP c.toNat))) (by decide +kernel) c)
theorem L_ext (s : ByteArray) (a : Nat) : L (s.extract a s.size) = (L s).drop a := by
  unfold L
  rw [Lib.extract_data, Lib.size_eq, List.take_of_length_le (by simp)]
theorem L_ext0 (s : ByteArray) (a : Nat) : L (s.extract 0 a) = (L s).take a := by
  unfold L
  rw [Lib.extract_data]; simp
theorem L_extm (s : ByteArray) (a b : Nat) : L (s.extract a b) = ((L s).drop a).take (b - a) := by
  unfold L
  rw [Lib.extract_data]
theorem bt_L (s : ByteArray) (j : Nat) (h : j < (L s).length) : bt s (j : Int) = ((L s)[j].toNat : Int) := bt_list s j h
theorem drop_cons (l : List UInt8) (n : Nat) (h : n < l.length) : l.drop n = l[n] :: l.drop (n + 1) := List.drop_eq_getElem_cons h
theorem atF_ext (s : ByteArray) (n : Nat) (c : Int) : atF (s.extract n s.size) c = decide (n < s.size ∧ bt s (n : Int) = c) := by
  by_cases h : n < s.size
  · have hl : n < (L s).length := by rw [← size_L]; exact h
    have e : L (s.extract n s.size) = (L s)[n] :: (L s).drop (n + 1) := by rw [L_ext, drop_cons _ _ hl]
    rw [atF_cons e, bt_L s n hl]
    simp [h]
  · have e : L (s.extract n s.size) = [] := by rw [L_ext]; exact List.drop_eq_nil_of_le (by rw [← size_L]; omega)
    rw [atF_nil e]
    simp [h]
theorem tl_ext (s : ByteArray) (n : Nat) : tl (s.extract n s.size) = s.extract (n + 1) s.size := by
  apply L_inj
  rw [L_tl, L_ext, L_ext]; simp
theorem drp_is (p : Int → Bool) (s : ByteArray) : drpB p s = s.extract (spanB p s) s.size := rfl
theorem tl_is (s : ByteArray) : tl s = s.extract 1 s.size := rfl
theorem bt_tl (s : ByteArray) (j : Nat) (h : j + 1 < s.size) : bt (tl s) (j : Int) = bt s ((j + 1 : Nat) : Int) := by
  have h1 : j + 1 < (L s).length := by rw [← size_L]; exact h
  have h2 : j < (L (tl s)).length := by rw [L_tl, List.length_tail]; omega
  rw [bt_L _ _ h2, bt_L _ _ h1]
  have : (L (tl s))[j] = (L s)[j + 1] := by simp [L_tl]
  rw [this]
theorem digits_l (s : ByteArray) (hs : s.size ≤ 100000) : ∀ (m x k : Nat), x + m = s.size → m < k → (∀ j : Nat, j < x → dgP (bt s j) = true) → glacisref05_digits.l0 k s (x : Int) = some (spanB dgP s : Int)
  | 0, x, k, hm, hk, hj => by
    obtain ⟨k, rfl⟩ : ∃ k', k = k' + 1 := ⟨k - 1, by omega⟩
    rw [glacisref05_digits.l0, if_neg (by omega), span_eq dgP s x (by omega) hj (fun h => by omega)]
  | m + 1, x, k, hm, hk, hj => by
    obtain ⟨k, rfl⟩ : ∃ k', k = k' + 1 := ⟨k - 1, by omega⟩
    obtain ⟨c, hc⟩ := bt_u s x (by omega)
    rw [glacisref05_digits.l0, if_pos (by omega), if_pos (by omega), hc, digit_u]
    simp only [Option.bind_some]
    by_cases hd : dgP c.toNat = true
    · rw [if_pos hd, wrap_next x (by omega)]
      refine digits_l s hs m (x + 1) k (by omega) (by omega) (fun j hjx => ?_)
      by_cases e : j = x
      · subst e; rw [hc]; exact hd
      · exact hj j (by omega)
    · rw [if_neg hd, span_eq dgP s x (by omega) hj (fun _ => by rw [hc]; exact Bool.eq_false_iff.mpr hd)]
theorem digits_f (s : ByteArray) (hs : s.size ≤ 100000) (k : Nat) (hk : s.size < k) : glacisref05_digits.f k s = some (spanB dgP s : Int) := by
  unfold glacisref05_digits.f
  exact digits_l s hs s.size 0 k (by omega) hk (fun j hj => by omega)
theorem numL_snoc (l : List UInt8) (c : UInt8) : numL (l ++ [c]) = numL l * 10 + (c.toNat - 48) := by unfold numL; rw [List.foldl_append]; rfl
theorem wrap_id (x : Int) (h : -9000000000000000000 ≤ x ∧ x ≤ 9000000000000000000) : wrap64 x = x := by unfold wrap64; omega
theorem lt_p15 {x n : Nat} (h : x < 10 ^ n) (hn : n ≤ 15) : x < 1000000000000000 := Nat.lt_of_lt_of_le h (Nat.le_trans (Nat.pow_le_pow_right (by decide) hn) (by decide))
theorem told_l (s : ByteArray) (hs : s.size ≤ 15) (hd : ∀ c ∈ L s, dgU c = true) : ∀ (m x k : Nat), x + m = s.size → m < k → glacisref05_told.l0 k s (numL ((L s).take x) : Int) (x : Int) = some (numL (L s) : Int)
  | 0, x, k, hm, hk => by
    obtain ⟨k, rfl⟩ : ∃ k', k = k' + 1 := ⟨k - 1, by omega⟩
    rw [glacisref05_told.l0, if_neg (by omega), List.take_of_length_le (by rw [← size_L]; omega)]
  | m + 1, x, k, hm, hk => by
    obtain ⟨k, rfl⟩ : ∃ k', k = k' + 1 := ⟨k - 1, by omega⟩
    have hx : x < (L s).length := by rw [← size_L]; omega
    have hc := hd _ (List.getElem_mem hx)
    have hc2 := dg_ne hc
    have e : numL ((L s).take (x + 1)) = numL ((L s).take x) * 10 + ((L s)[x].toNat - 48) := by rw [take_snoc _ _ hx, numL_snoc]
    have hb : numL ((L s).take (x + 1)) < 1000000000000000 := lt_p15 (numL_bound ((L s).take (x + 1)) (fun c hc => hd c (List.mem_of_mem_take hc))) (by rw [List.length_take, ← size_L]; omega)
    rw [glacisref05_told.l0, if_pos (by omega), if_pos (by omega), bt_L s x hx, wrap_next x (by omega)]
    obtain ⟨d, hd48⟩ : ∃ d : Nat, (L s)[x].toNat = 48 + d := ⟨(L s)[x].toNat - 48, by omega⟩
    have hd9 : d ≤ 9 := by omega
    rw [hd48, Nat.add_sub_cancel_left] at e
    rw [e] at hb
    have m1 : ((((L s)[x].toNat : Int) - 48) % 256) = (d : Int) := by rw [hd48]; omega
    generalize numL ((L s).take x) = a at *
    have m2 : wrap64 (10 * (a : Int)) = 10 * (a : Int) := wrap_id _ (by omega)
    have m3 : wrap64 (10 * (a : Int) + (d : Int)) = 10 * (a : Int) + (d : Int) := wrap_id _ (by omega)
    have e2 : wrap64 ((wrap64 (10 * (a : Int))) + ((((L s)[x].toNat : Int) - 48) % 256)) = (numL ((L s).take (x + 1)) : Int) := by
      rw [m1, m2, m3, e]; omega
    rw [e2]
    exact told_l s hs hd m (x + 1) k (by omega) (by omega)
theorem told_f (s : ByteArray) (hs : s.size ≤ 15) (hd : ∀ c ∈ L s, dgU c = true) (k : Nat) (hk : 16 ≤ k) : glacisref05_told.f k s = some (numL (L s) : Int) := by
  unfold glacisref05_told.f
  have := told_l s hs hd s.size 0 k (by omega) (by omega)
  simpa [numL] using this
/-- The document's answer, of a value that is read. -/
def refV (o : Option ((Int × Int × ByteArray) × ByteArray)) : ByteArray × Int × Int × ByteArray × ByteArray × Bool := match o with | some (v, t) => (⟨#[]⟩, v.1, v.2.1, v.2.2, t, true) | none => (⟨#[]⟩, 0, 0, ⟨#[]⟩, ⟨#[]⟩, false)
theorem refV_some (v : Int × Int × ByteArray) (t : ByteArray) : refV (some (v, t)) = (⟨#[]⟩, v.1, v.2.1, v.2.2, t, true) := rfl
def rdN (sg : Int) (s1 : ByteArray) : Option ((Int × Int × ByteArray) × ByteArray) :=
  if (takB dgP s1).size = 0 then none
    else if atF (drpB dgP s1) 46 = true then
      (if (takB dgP s1).size > 12 ∨ (takB dgP (tl (drpB dgP s1))).size = 0 ∨ (takB dgP (tl (drpB dgP s1))).size > 3 then none
      else some ((2, sg * (numV (takB dgP s1 ++ (takB dgP (tl (drpB dgP s1)) ++ zer (takB dgP (tl (drpB dgP s1))).size)) : Int), ⟨#[]⟩), drpB dgP (tl (drpB dgP s1))))
    else if (takB dgP s1).size > 15 then none else some ((1, sg * (numV (takB dgP s1) : Int), ⟨#[]⟩), drpB dgP s1)
theorem rdN_eq (s : ByteArray) : rdNumber s = rdN (sgn s) (atR s 45) := rdNumber_eq s
theorem number_j0 (s : ByteArray) (hs : s.size ≤ 100000) (sg : Int) (hsg : sg = 1 ∨ sg = -1) (k : Nat) (hk : s.size + 30 < k) : glacisref05_number.j0 k s sg = some (refV (rdN sg s)) := by
  obtain ⟨k, rfl⟩ : ∃ k', k = k' + 10 := ⟨k - 10, by omega⟩
  have hn := span_le dgP s
  have hall : ∀ c ∈ L (takB dgP s), dgU c = true := tak_all dgP s
  rw [glacisref05_number.j0, digits_f s hs _ (by omega)]
  simp only [Option.bind_some]
  unfold rdN
  rw [drp_is dgP s, tl_ext, atF_ext]
  have et : takB dgP s = s.extract 0 (spanB dgP s) := rfl
  rw [tak_size]
  by_cases h0 : spanB dgP s = 0
  · rw [if_pos (by omega), if_pos h0, glacisref05_number.j1, if_pos rfl]; rfl
  rw [if_neg (by omega), if_neg h0, glacisref05_number.j1]
  by_cases h15 : (spanB dgP s : Int) > 15
  · rw [decide_eq_true h15, if_pos rfl]
    by_cases h46 : spanB dgP s < s.size ∧ bt s (spanB dgP s) = 46
    · rw [decide_eq_true h46, if_pos rfl, if_pos (by omega)]; rfl
    · rw [decide_eq_false h46, if_neg (by decide), if_pos (by omega)]; rfl
  rw [decide_eq_false h15, if_neg (by decide)]
  have hint : glacisref05_number.j2 (k + 8) s sg (spanB dgP s) true = some (refV (some ((1, sg * (numV (takB dgP s) : Int), ⟨#[]⟩), s.extract (spanB dgP s) s.size))) := by
    have hz : (takB dgP s).size ≤ 15 := by rw [tak_size]; omega
    have hb := lt_p15 (numL_bound (L (takB dgP s)) hall) (by rw [← size_L]; exact hz)
    rw [glacisref05_number.j2, if_pos rfl, if_pos (by omega), if_pos (by omega)]
    have e1 : s.extract 0 ((spanB dgP s : Int)).toNat = takB dgP s := rfl
    rw [e1, told_f _ hz hall _ (by omega)]
    simp only [Option.bind_some]
    rw [wrap_id _ (by rcases hsg with rfl | rfl <;> omega), numV_L, refV_some]
    rfl
  by_cases h46 : spanB dgP s < s.size ∧ bt s (spanB dgP s) = 46
  · rw [decide_eq_true h46, if_pos (show true = true from rfl)]
    rw [if_neg (by omega), if_pos (by omega), if_pos (by omega), h46.2]
    have hw : wrap64 ((spanB dgP s : Int) + 1) = ((spanB dgP s + 1 : Nat) : Int) := wrap_next _ (by omega)
    rw [show ((46 : Int) != 46) = false from rfl, glacisref05_number.j2, if_neg (by decide), hw, if_pos (by omega), if_pos (by omega)]
    have e2 : s.extract (((spanB dgP s + 1 : Nat) : Int)).toNat s.size = s.extract (spanB dgP s + 1) s.size := rfl
    rw [e2]
    have hz2 : (s.extract (spanB dgP s + 1) s.size).size ≤ s.size := by rw [ByteArray.size_extract]; omega
    rw [digits_f _ (by omega) _ (by omega)]
    simp only [Option.bind_some]
    generalize hP : s.extract (spanB dgP s + 1) s.size = P at *
    have hPL : L P = (L s).drop (spanB dgP s + 1) := by rw [← hP, L_ext]
    have hPs : P.size = s.size - (spanB dgP s + 1) := by rw [← hP, ByteArray.size_extract]; omega
    have hm := span_le dgP P
    have hall2 : ∀ c ∈ L (takB dgP P), dgU c = true := tak_all dgP P
    rw [tak_size]
    by_cases hbad : spanB dgP s > 12 ∨ spanB dgP P = 0 ∨ spanB dgP P > 3
    · rw [if_pos hbad]
      have hj : ∀ b : Bool, b = true → glacisref05_number.j3 (k + 7) s sg (spanB dgP s) (spanB dgP P) b = some (refV none) := by
        intro b hb
        rw [glacisref05_number.j3, if_pos hb]; rfl
      by_cases b1 : (spanB dgP s : Int) > 12
      · rw [if_pos b1]; exact hj true rfl
      rw [if_neg b1]
      by_cases b2 : (spanB dgP P : Int) < 1
      · rw [if_pos b2]; exact hj true rfl
      rw [if_neg b2]
      exact hj _ (decide_eq_true (by omega))
    · rw [if_neg hbad, if_neg (by omega), if_neg (by omega), decide_eq_false (by omega), glacisref05_number.j3, if_neg (by decide), if_pos (by omega), if_pos (by omega), hw, if_pos (by omega)]
      have hw2 : wrap64 (((spanB dgP s + 1 : Nat) : Int) + (spanB dgP P : Int)) = ((spanB dgP s + 1 + spanB dgP P : Nat) : Int) := by unfold wrap64; omega
      rw [hw2, if_pos (by omega), if_pos (by omega)]
      have e3 : s.extract 0 ((spanB dgP s : Int)).toNat = takB dgP s := rfl
      have e4 : s.extract (((spanB dgP s + 1 : Nat) : Int)).toNat (((spanB dgP s + 1 + spanB dgP P : Nat) : Int)).toNat = takB dgP P := by
        apply L_inj
        rw [L_extm]
        have : L (takB dgP P) = (L P).take (spanB dgP P) := L_ext0 P _
        rw [this, hPL]
        congr 1
        omega
      rw [e3, e4]
      have z1 := tak_size dgP s
      have z2 := tak_size dgP P
      rw [if_pos (by omega)]
      have hz : (takB dgP s ++ takB dgP P).size ≤ 15 := by rw [ByteArray.size_append]; omega
      have hall3 : ∀ c ∈ L (takB dgP s ++ takB dgP P), dgU c = true := by
        rw [L_app]; intro c hc
        rcases List.mem_append.1 hc with hc | hc
        · exact hall c hc
        · exact hall2 c hc
      rw [told_f _ hz hall3 _ (by omega)]
      simp only [Option.bind_some]
      have hb := numL_bound (L (takB dgP s ++ takB dgP P)) hall3
      have hlen : (L (takB dgP s ++ takB dgP P)).length = spanB dgP s + spanB dgP P := by rw [← size_L, ByteArray.size_append]; omega
      have hval : numV (takB dgP s ++ (takB dgP P ++ zer (spanB dgP P))) = numL (L (takB dgP s ++ takB dgP P)) * 10 ^ (3 - spanB dgP P) := by
        have eqa : takB dgP s ++ (takB dgP P ++ zer (spanB dgP P)) = (takB dgP s ++ takB dgP P) ++ zer (spanB dgP P) := L_inj (by simp only [L_app, List.append_assoc])
        rw [eqa, numV_L, L_app, zer_L, numL_app]
        have hzl : (zerL (spanB dgP P)).length = 3 - spanB dgP P := zer_len _ (by omega)
        have hz0 : numL (zerL (spanB dgP P)) = 0 := by
          rcases (show spanB dgP P = 1 ∨ spanB dgP P = 2 ∨ spanB dgP P = 3 by omega) with e | e | e <;> rw [e] <;> rfl
        rw [hzl, hz0, Nat.add_zero]
      rw [hval, refV_some]
      have hrest : drpB dgP P = s.extract (spanB dgP s + 1 + spanB dgP P) s.size := by
        apply L_inj
        have : L (drpB dgP P) = (L P).drop (spanB dgP P) := L_ext P _
        rw [this, hPL, L_ext, List.drop_drop]
      rw [hrest]
      generalize numL (L (takB dgP s ++ takB dgP P)) = X at *
      have hX : X < 10 ^ (spanB dgP s + spanB dgP P) := by rw [← hlen]; exact hb
      have hlast : ∀ (k' : Nat) (Y : Int), glacisref05_number.l0 (k' + 1) s sg (spanB dgP s) (spanB dgP P) Y 3 = some (⟨#[]⟩, 2, wrap64 (sg * Y), ⟨#[]⟩, s.extract (spanB dgP s + 1 + spanB dgP P) s.size, true) := by
        intro k' Y
        rw [glacisref05_number.l0, if_neg (by decide), hw, hw2, if_pos (by omega), if_pos (by omega)]
        rfl
      have hle : X < 10 ^ 12 * 10 ^ spanB dgP P := by
        rw [← Nat.pow_add]
        exact Nat.lt_of_lt_of_le hX (Nat.pow_le_pow_right (by omega) (by omega))
      rcases (show spanB dgP P = 1 ∨ spanB dgP P = 2 ∨ spanB dgP P = 3 by omega) with e | e | e
      · rw [e] at hlast hle ⊢
        rw [show k + 6 = (k + 5) + 1 from rfl, show (((1 : Nat)) : Int) = 1 from rfl] at *
        rw [glacisref05_number.l0, if_pos (by decide), wrap_id (10 * (X : Int)) (by omega), show wrap64 ((1 : Int) + 1) = 2 from wrap_id _ (by omega), glacisref05_number.l0, if_pos (by decide), wrap_id (10 * (10 * (X : Int))) (by omega), show wrap64 ((2 : Int) + 1) = 3 from wrap_id _ (by omega), hlast]
        rw [wrap_id _ (by rcases hsg with rfl | rfl <;> omega)]
        congr 3
        rw [show (3 - 1 : Nat) = 2 from rfl]
        push_cast
        rcases hsg with rfl | rfl <;> simp <;> omega
      · rw [e] at hlast hle ⊢
        rw [show k + 6 = (k + 5) + 1 from rfl, show (((2 : Nat)) : Int) = 2 from rfl] at *
        rw [glacisref05_number.l0, if_pos (by decide), wrap_id (10 * (X : Int)) (by omega), show wrap64 ((2 : Int) + 1) = 3 from wrap_id _ (by omega), hlast]
        rw [wrap_id _ (by rcases hsg with rfl | rfl <;> omega)]
        congr 3
        rw [show (3 - 2 : Nat) = 1 from rfl]
        push_cast
        rcases hsg with rfl | rfl <;> simp <;> omega
      · rw [e] at hlast hle ⊢
        rw [show k + 6 = (k + 5) + 1 from rfl, show (((3 : Nat)) : Int) = 3 from rfl] at *
        rw [hlast]
        rw [wrap_id _ (by rcases hsg with rfl | rfl <;> omega)]
        congr 3
        rw [show (3 - 3 : Nat) = 0 from rfl]
        simp
  · rw [decide_eq_false h46, if_neg (show ¬ (false = true) by decide), if_neg (show ¬ (spanB dgP s > 15) by omega)]
    by_cases he : (spanB dgP s : Int) = (s.size : Int)
    · rw [if_pos he]; exact hint
    · rw [if_neg he, if_pos (by omega), if_pos (by omega)]
      have : (bt s (spanB dgP s) != 46) = true := by
        rw [bne_iff_ne]; intro e; exact h46 ⟨by omega, e⟩
      rw [this]; exact hint
theorem number_f (s : ByteArray) (hs : s.size ≤ 100000) (h0 : 0 < s.size) (k : Nat) (hk : s.size + 30 < k) : glacisref05_number.f k s = some (refV (rdNumber s)) := by
  unfold glacisref05_number.f
  rw [if_pos (by omega), rdN_eq]
  unfold sgn atR atF
  by_cases h : bt s 0 = 45
  · rw [if_pos h, if_pos (by omega), decide_eq_true (show 0 < s.size ∧ bt s 0 = 45 from ⟨h0, h⟩), if_pos rfl, if_pos rfl]
    have hz := tl_size s
    exact number_j0 (tl s) (by omega) (-1) (Or.inr rfl) k (by omega)
  · rw [if_neg h, decide_eq_false (show ¬ (0 < s.size ∧ bt s 0 = 45) from fun e => h e.2), if_neg (by decide), if_neg (by decide)]
    exact number_j0 s hs 1 (Or.inl rfl) k hk
end Go.Proofs.YtbbaokjkmcfceaaGreatDoor.Pl
/- Chapter 5: the document's own reader: texts in quotes, values, keys, parameters, items. -/
namespace Go.Proofs.YtbbaokjkmcfceaaGreatDoor.Pl
open Go.RowKit Go.Proofs.YtbbaokjkmcfceaaGreatDoor.Q Go.Proofs.YtbbaokjkmcfceaaGreatDoor.Sf Go.Proofs.YtbbaokjkmcfceaaGreatDoorW.PrintWords Go.Proofs.YtbbaokjkmcfceaaGreatDoorW.PrintLast
set_option linter.unusedVariables false
set_option linter.unusedSimpArgs false
theorem nums_snoc (xs : List Int) (s : ByteArray) (i : Nat) (h : i < s.size) : strOfNums (xs ++ [bt s i]) = strOfNums xs ++ s.extract i (i + 1) := by
  have hl : i < (L s).length := by rw [← size_L]; exact h
  apply L_inj
  rw [bt_L s i hl, num_app xs _ _ rfl, L_app, L_extm, drop_cons _ _ hl]
  rw [show i + 1 - i = 1 by omega]; rfl
theorem ext_size (s : ByteArray) (i : Nat) (h : i < s.size) : (s.extract i (i + 1)).size = 1 := by rw [ByteArray.size_extract]; omega
theorem fits (a b : Nat) (ha : a ≤ 100000) (hb : b = 1) : a + b ≤ 9223372036854775807 := by omega
theorem qF_shut (d : Nat) (s : ByteArray) (xs : List Int) (h0 : 0 < s.size) (h : bt s 0 = 34) : qF (d + 1) s xs = some (strOfNums xs, tl s) := by
  rw [qF, if_pos h0, if_pos h]
theorem qF_nil (d : Nat) (s : ByteArray) (xs : List Int) (h0 : ¬ 0 < s.size) : qF (d + 1) s xs = none := by
  rw [qF, if_neg h0]
theorem qF_bad (d : Nat) (s : ByteArray) (xs : List Int) (h0 : 0 < s.size) (h : bt s 0 ≠ 34) (hb : bt s 0 < 32 ∨ 126 < bt s 0) : qF (d + 1) s xs = none := by
  rw [qF, if_pos h0, if_neg h, if_pos (by rcases hb with h | h; exact Or.inl h; exact Or.inr (Or.inl h))]
theorem wi_of {c : UInt8} (h : (c.toNat : Int) = 34 ∨ (c.toNat : Int) = 92) : wiP c.toNat ⟨#[34, 92]⟩ = true := by
  rw [wiQ]; exact decide_eq_true (by omega)
theorem wi_not {c : UInt8} (h : ¬ ((c.toNat : Int) = 34 ∨ (c.toNat : Int) = 92)) : ¬ wiP c.toNat ⟨#[34, 92]⟩ = true := by
  rw [wiQ]; intro e; have := of_decide_eq_true e; omega
theorem qF_esc (d : Nat) (s : ByteArray) (xs : List Int) (h0 : 0 < s.size) (h : bt s 0 = 92) (h1 : 0 < (tl s).size) (hq : bt (tl s) 0 = 34 ∨ bt (tl s) 0 = 92) : qF (d + 1) s xs = qF d (tl (tl s)) (xs ++ [bt (tl s) 0]) := by
  obtain ⟨c, hc⟩ := bt_u (tl s) 0 h1
  have hc' : bt (tl s) 0 = (c.toNat : Int) := hc
  rw [hc'] at hq
  have hw := wi_of hq
  rw [← hc'] at hw
  rw [qF, if_pos h0, if_neg (by rw [h]; decide), if_neg (by
    rintro (k | k | ⟨_, k⟩)
    · rw [h] at k; exact absurd k (by decide)
    · rw [h] at k; exact absurd k (by decide)
    · exact k ⟨h1, hw⟩), if_pos h]
theorem qF_escbad (d : Nat) (s : ByteArray) (xs : List Int) (h0 : 0 < s.size) (h : bt s 0 = 92) (hq : ¬ (0 < (tl s).size ∧ (bt (tl s) 0 = 34 ∨ bt (tl s) 0 = 92))) : qF (d + 1) s xs = none := by
  rw [qF, if_pos h0, if_neg (by rw [h]; decide), if_pos (by
    refine Or.inr (Or.inr ⟨h, fun k => ?_⟩)
    obtain ⟨c, hc⟩ := bt_u (tl s) 0 k.1
    have hc' : bt (tl s) 0 = (c.toNat : Int) := hc
    have k2 := k.2
    rw [hc'] at hq k2
    exact wi_not (fun e => hq ⟨k.1, e⟩) k2)]
theorem qF_plain (d : Nat) (s : ByteArray) (xs : List Int) (h0 : 0 < s.size) (h : bt s 0 ≠ 34) (h1 : ¬ bt s 0 < 32) (h2 : ¬ 126 < bt s 0) (h3 : bt s 0 ≠ 92) : qF (d + 1) s xs = qF d (tl s) (xs ++ [bt s 0]) := by
  rw [qF, if_pos h0, if_neg h, if_neg (by
    rintro (k | k | ⟨k, _⟩)
    · exact h1 k
    · exact h2 k
    · exact h3 k), if_neg h3]
theorem r_shut (k i : Nat) (s o : ByteArray) (hs : s.size ≤ 100000) (hi : i < s.size) (h : bt s i = 34) : glacisref05_quoted.l0 (k + 1) s o (i : Int) = some (⟨#[]⟩, 3, 0, o, s.extract (i + 1) s.size, true) := by
  rw [glacisref05_quoted.l0, if_pos (by omega), if_pos (by omega), if_pos h, wrap_next i (by omega), if_pos (by omega), if_pos (by omega)]; rfl
theorem r_nil (k i : Nat) (s o : ByteArray) (hi : ¬ i < s.size) : glacisref05_quoted.l0 (k + 1) s o (i : Int) = some (refV none) := by
  rw [glacisref05_quoted.l0, if_neg (by omega)]; rfl
theorem r_j (k i : Nat) (s o : ByteArray) (hi : i < s.size) (h : bt s i ≠ 34) : glacisref05_quoted.l0 (k + 1) s o (i : Int) = glacisref05_quoted.j1 k s o i (decide (bt s i < 32 ∨ 126 < bt s i)) := by
  rw [glacisref05_quoted.l0, if_pos (by omega), if_pos (by omega), if_neg h]
  by_cases h1 : bt s i < 32
  · rw [if_pos h1, decide_eq_true (Or.inl h1)]
  · rw [if_neg h1]
    by_cases h2 : bt s i > 126
    · rw [decide_eq_true h2, decide_eq_true (Or.inr h2)]
    · rw [decide_eq_false h2, decide_eq_false (by rintro (k | k); exact h1 k; exact h2 k)]
theorem r_bad (k i : Nat) (s o : ByteArray) (hi : i < s.size) (h : bt s i ≠ 34) (hb : bt s i < 32 ∨ 126 < bt s i) : glacisref05_quoted.l0 (k + 2) s o (i : Int) = some (refV none) := by
  rw [r_j (k + 1) i s o hi h, decide_eq_true hb, glacisref05_quoted.j1, if_pos rfl]; rfl
theorem r_plain (k i : Nat) (s o : ByteArray) (hs : s.size ≤ 100000) (hi : i < s.size) (ho : o.size ≤ 100000) (h : bt s i ≠ 34) (hb : ¬ (bt s i < 32 ∨ 126 < bt s i)) (h9 : bt s i ≠ 92) : glacisref05_quoted.l0 (k + 2) s o (i : Int) = glacisref05_quoted.l0 k s (o ++ s.extract i (i + 1)) ((i + 1 : Nat) : Int) := by
  have p1 : ((i : Int)) ≤ (((i + 1 : Nat) : Int)) := by omega
  have p2 : (((i + 1 : Nat) : Int)) ≤ (s.size : Int) := by omega
  have p3 : (0 : Int) ≤ (i : Int) := by omega
  have p4 : (i : Int) < (s.size : Int) := by omega
  have hw := wrap_next i (by omega)
  rw [r_j (k + 1) i s o hi h, decide_eq_false hb, glacisref05_quoted.j1, if_neg (by decide), if_pos p3, if_pos p4, if_neg h9, hw, if_pos p1, if_pos p2]
  simp only [Int.toNat_natCast]
  rw [if_pos (fits _ _ ho (ext_size s i hi))]
theorem r_esc (k i : Nat) (s o : ByteArray) (hs : s.size ≤ 100000) (hi : i + 1 < s.size) (ho : o.size ≤ 100000) (h9 : bt s i = 92) (hq : bt s ((i + 1 : Nat) : Int) = 34 ∨ bt s ((i + 1 : Nat) : Int) = 92) : glacisref05_quoted.l0 (k + 2) s o (i : Int) = glacisref05_quoted.l0 k s (o ++ s.extract (i + 1) (i + 1 + 1)) ((i + 1 + 1 : Nat) : Int) := by
  have p1 : (((i + 1 : Nat) : Int)) ≤ (((i + 1 + 1 : Nat) : Int)) := by omega
  have p2 : (((i + 1 + 1 : Nat) : Int)) ≤ (s.size : Int) := by omega
  have p3 : (0 : Int) ≤ (i : Int) := by omega
  have p4 : (i : Int) < (s.size : Int) := by omega
  have p5 : ¬ (((i + 1 : Nat) : Int)) = (s.size : Int) := by omega
  have p6 : (0 : Int) ≤ (((i + 1 : Nat) : Int)) := by omega
  have p7 : (((i + 1 : Nat) : Int)) < (s.size : Int) := by omega
  have hw := wrap_next i (by omega)
  have hw2 := wrap_next (i + 1) (by omega)
  rw [r_j (k + 1) i s o (by omega) (by rw [h9]; decide), decide_eq_false (by rw [h9]; decide), glacisref05_quoted.j1, if_neg (by decide), if_pos p3, if_pos p4, if_pos h9, hw, if_neg p5, if_pos p6, if_pos p7, hw2]
  rcases hq with hq | hq
  · rw [if_pos hq, if_pos p1, if_pos p2]
    simp only [Int.toNat_natCast]
    rw [if_pos (fits _ _ ho (ext_size s (i + 1) hi))]
  · rw [if_neg (by rw [hq]; decide), if_pos hq, if_pos p1, if_pos p2]
    simp only [Int.toNat_natCast]
    rw [if_pos (fits _ _ ho (ext_size s (i + 1) hi))]
theorem r_escbad (k i : Nat) (s o : ByteArray) (hs : s.size ≤ 100000) (hi : i < s.size) (h9 : bt s i = 92) (hq : ¬ (i + 1 < s.size ∧ (bt s ((i + 1 : Nat) : Int) = 34 ∨ bt s ((i + 1 : Nat) : Int) = 92))) : glacisref05_quoted.l0 (k + 2) s o (i : Int) = some (refV none) := by
  have p3 : (0 : Int) ≤ (i : Int) := by omega
  have p4 : (i : Int) < (s.size : Int) := by omega
  have hw := wrap_next i (by omega)
  rw [r_j (k + 1) i s o hi (by rw [h9]; decide), decide_eq_false (by rw [h9]; decide), glacisref05_quoted.j1, if_neg (by decide), if_pos p3, if_pos p4, if_pos h9, hw]
  by_cases he : i + 1 = s.size
  · rw [if_pos (show (((i + 1 : Nat) : Int)) = (s.size : Int) by omega)]; rfl
  · have h1 : i + 1 < s.size := by omega
    have p6 : (0 : Int) ≤ (((i + 1 : Nat) : Int)) := by omega
    have p7 : (((i + 1 : Nat) : Int)) < (s.size : Int) := by omega
    rw [if_neg (show ¬ (((i + 1 : Nat) : Int)) = (s.size : Int) by omega), if_pos p6, if_pos p7, if_neg (fun e => hq ⟨h1, Or.inl e⟩), if_neg (fun e => hq ⟨h1, Or.inr e⟩)]; rfl
theorem bt_ext (s : ByteArray) (i : Nat) (h : i < s.size) : bt (s.extract i s.size) 0 = bt s i := by
  have hl : i < (L s).length := by rw [← size_L]; exact h
  have e : L (s.extract i s.size) = (L s)[i] :: (L s).drop (i + 1) := by rw [L_ext, drop_cons _ _ hl]
  rw [bt0 e, bt_L s i hl]
theorem quoted_l (s : ByteArray) (hs : s.size ≤ 100000) : ∀ (d i k : Nat) (xs : List Int), s.size < i + d → i ≤ s.size → 2 * s.size + 2 < k + 2 * i → (strOfNums xs).size ≤ i →
    glacisref05_quoted.l0 k s (strOfNums xs) (i : Int) = some (refV ((qF d (s.extract i s.size) xs).map mkQ))
  | 0, i, k, xs, hd, hi, hk, hx => by omega
  | d + 1, i, k, xs, hd, hi, hk, hx => by
    obtain ⟨k, rfl⟩ : ∃ k', k = k' + 2 := ⟨k - 2, by omega⟩
    have hz : (s.extract i s.size).size + i = s.size := by rw [ByteArray.size_extract]; omega
    have ho : (strOfNums xs).size ≤ 100000 := Nat.le_trans hx (Nat.le_trans hi hs)
    by_cases h : i < s.size
    · have hb := bt_ext s i h
      have h0 : 0 < (s.extract i s.size).size := by omega
      by_cases c34 : bt s i = 34
      · rw [r_shut (k + 1) i s _ hs h c34, qF_shut d _ xs h0 (hb.trans c34), tl_ext]; rfl
      by_cases cb : bt s i < 32 ∨ 126 < bt s i
      · rw [r_bad k i s _ h c34 cb, qF_bad d _ xs h0 (by rw [hb]; exact c34) (by rw [hb]; exact cb)]; rfl
      by_cases c92 : bt s i = 92
      · have hz1 : (s.extract (i + 1) s.size).size + (i + 1) = s.size := by rw [ByteArray.size_extract]; omega
        by_cases hq : i + 1 < s.size ∧ (bt s ((i + 1 : Nat) : Int) = 34 ∨ bt s ((i + 1 : Nat) : Int) = 92)
        · have hb1 := bt_ext s (i + 1) hq.1
          rw [r_esc k i s _ hs hq.1 ho c92 hq.2, qF_esc d _ xs h0 (hb.trans c92) (by rw [tl_ext]; omega) (by rw [tl_ext, hb1]; exact hq.2), tl_ext, tl_ext, hb1, ← nums_snoc xs s (i + 1) hq.1]
          refine quoted_l s hs d (i + 1 + 1) k _ (by omega) (by omega) (by omega) ?_
          rw [nums_snoc xs s (i + 1) hq.1, ByteArray.size_append, ext_size s (i + 1) hq.1]; omega
        · rw [r_escbad k i s _ hs h c92 hq, qF_escbad d _ xs h0 (hb.trans c92) (by
            rw [tl_ext]
            rintro ⟨k1, k2⟩
            have h1 : i + 1 < s.size := by omega
            rw [bt_ext s (i + 1) h1] at k2
            exact hq ⟨h1, k2⟩)]
          rfl
      · rw [r_plain k i s _ hs h ho c34 cb c92, qF_plain d _ xs h0 (by rw [hb]; exact c34) (by rw [hb]; exact fun e => cb (Or.inl e)) (by rw [hb]; exact fun e => cb (Or.inr e)) (by rw [hb]; exact c92), tl_ext, hb, ← nums_snoc xs s i h]
        refine quoted_l s hs d (i + 1) k _ (by omega) (by omega) (by omega) ?_
        rw [nums_snoc xs s i h, ByteArray.size_append, ext_size s i h]; omega
    · rw [r_nil (k + 1) i s _ h, qF_nil d _ xs (by omega)]; rfl
theorem quoted_f (s : ByteArray) (hs : s.size ≤ 100000) (h0 : 0 < s.size) (k : Nat) (hk : 2 * s.size + 10 < k) : glacisref05_quoted.f k s = some (refV (rdQuoted (tl s))) := by
  unfold glacisref05_quoted.f rdQuoted
  have z := tl_lt s h0
  rw [z]
  have := quoted_l s hs s.size 1 k [] (by omega) (by omega) (by omega) (by show (0 : Nat) ≤ 1; omega)
  exact this
theorem tok_l (s : ByteArray) (hs : s.size ≤ 100000) : ∀ (m x k : Nat), x + m = s.size → m + 17 < k → (∀ j : Nat, j < x → tokP (bt s j) = true) → glacisref05_value.l0 k s (x : Int) = some (refV (some ((4, 0, takB tokP s), drpB tokP s)))
  | 0, x, k, hm, hk, hj => by
    obtain ⟨k, rfl⟩ : ∃ k', k = k' + 1 := ⟨k - 1, by omega⟩
    have e := span_eq tokP s x (by omega) hj (fun h => by omega)
    rw [glacisref05_value.l0, if_neg (by omega), if_pos (by omega), if_pos (by omega)]
    unfold takB drpB
    rw [e]; rfl
  | m + 1, x, k, hm, hk, hj => by
    obtain ⟨k, rfl⟩ : ∃ k', k = k' + 1 := ⟨k - 1, by omega⟩
    obtain ⟨c, hc⟩ := bt_u s x (by omega)
    rw [glacisref05_value.l0, if_pos (by omega), if_pos (by omega), hc, tokens_u c k (by omega)]
    simp only [Option.bind_some]
    by_cases hd : tokP c.toNat = true
    · rw [if_pos hd, wrap_next x (by omega)]
      refine tok_l s hs m (x + 1) k (by omega) (by omega) (fun j hjx => ?_)
      by_cases e : j = x
      · subst e; rw [hc]; exact hd
      · exact hj j (by omega)
    · have e := span_eq tokP s x (by omega) hj (fun _ => by rw [hc]; exact Bool.eq_false_iff.mpr hd)
      rw [if_neg hd, if_pos (by omega)]
      unfold takB drpB
      rw [e]; rfl
theorem base_l (s : ByteArray) (hs : s.size ≤ 100000) (h0 : 0 < s.size) : ∀ (m x k : Nat), x + 1 + m = s.size → m < k → (∀ j : Nat, j < x → baP (bt (tl s) j) = true) → glacisref05_value.l1 k s ((x + 1 : Nat) : Int) = some (refV (rdBytes (tl s)))
  | 0, x, k, hm, hk, hj => by
    obtain ⟨k, rfl⟩ : ∃ k', k = k' + 1 := ⟨k - 1, by omega⟩
    have hz := tl_lt s h0
    have e := span_eq baP (tl s) x (by omega) hj (fun h => by omega)
    rw [glacisref05_value.l1, if_neg (by omega), if_pos (by omega)]
    unfold rdBytes
    rw [drp_is, e, atF_ext, decide_eq_false (by omega), if_neg (by decide)]; rfl
  | m + 1, x, k, hm, hk, hj => by
    obtain ⟨k, rfl⟩ : ∃ k', k = k' + 1 := ⟨k - 1, by omega⟩
    have hz := tl_lt s h0
    have hb : bt (tl s) (x : Int) = bt s ((x + 1 : Nat) : Int) := bt_tl s x (by omega)
    obtain ⟨c, hc⟩ := bt_u s (x + 1) (by omega)
    rw [glacisref05_value.l1, if_pos (by omega), if_pos (by omega), hc, base_u c]
    simp only [Option.bind_some]
    by_cases hd : baP c.toNat = true
    · rw [if_pos hd, wrap_next _ (by omega)]
      refine base_l s hs h0 m (x + 1) k (by omega) (by omega) (fun j hjx => ?_)
      by_cases e : j = x
      · subst e; rw [hb, hc]; exact hd
      · exact hj j (by omega)
    · have e := span_eq baP (tl s) x (by omega) hj (fun _ => by rw [hb, hc]; exact Bool.eq_false_iff.mpr hd)
      rw [if_neg hd, if_neg (by omega)]
      unfold rdBytes
      rw [drp_is, e, atF_ext, hb, hc]
      by_cases h58 : (c.toNat : Int) = 58
      · rw [if_pos h58, decide_eq_true ⟨by omega, h58⟩, if_pos rfl, if_pos (by omega), if_pos (by omega), wrap_next _ (by omega), if_pos (by omega), if_pos (by omega), refV_some]
        have e1 : s.extract 1 (((x + 1 : Nat) : Int)).toNat = takB baP (tl s) := by
          apply L_inj
          unfold takB
          rw [e, L_ext0, L_tl, L_extm]
          rw [show (((x + 1 : Nat) : Int)).toNat - 1 = x by omega, List.drop_one]
        have e2 : s.extract (((x + 1 + 1 : Nat) : Int)).toNat s.size = tl ((tl s).extract x (tl s).size) := by
          rw [tl_ext]
          apply L_inj
          rw [L_ext, L_ext, L_tl, ← List.drop_one, List.drop_drop]
          congr 1
          omega
        rw [e1, e2]
      · rw [if_neg h58, decide_eq_false (fun h => h58 h.2), if_neg (by decide)]; rfl
theorem firsts (c : UInt8) : ((c.toNat : Int) = 45 ∨ dgP c.toNat = true → (c.toNat : Int) ≠ 34) ∧ (leP c.toNat = true ∨ (c.toNat : Int) = 42 → tokP c.toNat = true ∧ (c.toNat : Int) ≠ 34) := by
  have h := allU (fun c : UInt8 => (!(decide ((c.toNat : Int) = 45) || dgP c.toNat) || !decide ((c.toNat : Int) = 34)) && (!(leP c.toNat || decide ((c.toNat : Int) = 42)) || (tokP c.toNat && !decide ((c.toNat : Int) = 34)))) (by decide +kernel) c
  simp only [Bool.and_eq_true, Bool.or_eq_true, Bool.not_eq_true', Bool.or_eq_false_iff, decide_eq_false_iff_not] at h
  refine ⟨fun k => ?_, fun k => ?_⟩
  · rcases h.1 with ⟨a, b⟩ | a
    · rcases k with k | k
      · exact absurd k a
      · rw [k] at b; cases b
    · exact a
  · rcases h.2 with ⟨a, b⟩ | a
    · rcases k with k | k
      · rw [k] at a; cases a
      · exact absurd k b
    · exact a
theorem value_f (s : ByteArray) (hs : s.size ≤ 100000) (k : Nat) (hk : 2 * s.size + 100 < k) : glacisref05_value.f k s = some (refV (rdValue s)) := by
  unfold glacisref05_value.f rdValue
  by_cases h0 : 0 < s.size
  · obtain ⟨c, hc⟩ := bt_u s 0 h0
    have hne : ¬ s.toList = ([] : List UInt8) := by
      rw [L_toList]; intro e; rw [size_L, e] at h0; exact absurd h0 (by simp)
    have hc' : bt s 0 = (c.toNat : Int) := hc
    obtain ⟨f1, f2⟩ := firsts c
    rw [if_neg hne, if_pos (by omega), if_pos h0, hc', letter_u, digit_u]
    simp only [Option.bind_some]
    obtain ⟨k, rfl⟩ : ∃ k', k = k' + 3 := ⟨k - 3, by omega⟩
    have hj0 : ∀ b : Bool, b = true → (c.toNat : Int) = 45 ∨ dgP c.toNat = true → glacisref05_value.j0 (k + 3) s (leP c.toNat) b = some (refV (if (c.toNat : Int) = 45 ∨ dgP c.toNat = true then rdNumber s else if leP c.toNat = true ∨ (c.toNat : Int) = 42 then some ((4, 0, takB tokP s), drpB tokP s) else if (c.toNat : Int) = 34 then rdQuoted (tl s) else if (c.toNat : Int) = 58 then rdBytes (tl s) else if (c.toNat : Int) = 63 then rdBool (tl s) else none)) := by
      intro b hb hcn
      rw [glacisref05_value.j0, if_pos hb, number_f s hs h0 _ (by omega), if_pos hcn]
      simp only [Option.bind_some]
    by_cases c45 : (c.toNat : Int) = 45
    · rw [if_pos c45]; exact hj0 true rfl (Or.inl c45)
    rw [if_neg c45]
    by_cases cd : dgP c.toNat = true
    · exact hj0 _ cd (Or.inr cd)
    rw [if_neg (by rintro (h | h); exact c45 h; exact cd h), glacisref05_value.j0, if_neg cd, if_pos (by omega), hc']
    by_cases c34 : (c.toNat : Int) = 34
    · rw [if_pos c34, quoted_f s hs h0 _ (by omega), if_neg (fun h => (f2 h).2 c34), if_pos c34]
      simp only [Option.bind_some]
    rw [if_neg c34]
    have hj1 : ∀ b : Bool, b = true → leP c.toNat = true ∨ (c.toNat : Int) = 42 → glacisref05_value.j1 (k + 2) s b = some (refV (if leP c.toNat = true ∨ (c.toNat : Int) = 42 then some ((4, 0, takB tokP s), drpB tokP s) else if (c.toNat : Int) = 34 then rdQuoted (tl s) else if (c.toNat : Int) = 58 then rdBytes (tl s) else if (c.toNat : Int) = 63 then rdBool (tl s) else none)) := by
      intro b hb hcn
      rw [glacisref05_value.j1, if_pos hb, if_pos hcn]
      exact tok_l s hs (s.size - 1) 1 (k + 1) (by omega) (by omega) (fun j hj => by
        obtain rfl : j = 0 := by omega
        rw [hc]; exact (f2 hcn).1)
    by_cases cl : leP c.toNat = true
    · rw [if_pos cl]; exact hj1 true rfl (Or.inl cl)
    rw [if_neg cl]
    by_cases c42 : (c.toNat : Int) = 42
    · exact hj1 _ (beq_iff_eq.2 c42) (Or.inr c42)
    rw [if_neg (by rintro (h | h); exact cl h; exact c42 h), if_neg c34, glacisref05_value.j1, if_neg (by simpa using c42), if_pos (by omega), hc']
    by_cases c58 : (c.toNat : Int) = 58
    · rw [if_pos c58, if_pos c58]
      exact base_l s hs h0 (s.size - 1) 0 (k + 1) (by omega) (by omega) (fun j hj => by omega)
    rw [if_neg c58, if_neg c58]
    by_cases c63 : (c.toNat : Int) = 63
    · rw [if_pos c63, if_pos c63]
      unfold rdBool
      have hz := tl_lt s h0
      by_cases h2 : (s.size : Int) < 2
      · have e : L (tl s) = [] := by
          have : (L (tl s)).length = 0 := by rw [← size_L]; omega
          exact List.length_eq_zero_iff.1 this
        rw [if_pos h2, atF_nil e, atF_nil e, if_neg (by decide), if_neg (by decide)]; rfl
      · rw [if_neg h2, if_pos (by omega)]
        have hb : bt (tl s) 0 = bt s 1 := bt_tl s 0 (by omega)
        have a1 : ∀ n : Int, atF (tl s) n = decide (bt s 1 = n) := fun n => by
          unfold atF; rw [hb]; simp [show 0 < (tl s).size by omega]
        have er : s.extract 2 s.size = tl (tl s) := by rw [tl_is s, tl_ext]
        rw [a1, a1]
        by_cases d48 : bt s 1 = 48
        · rw [if_pos d48, if_pos (by omega), d48, er]; rfl
        rw [if_neg d48]
        by_cases d49 : bt s 1 = 49
        · rw [if_pos d49, if_pos (by omega), d49, er]; rfl
        · rw [if_neg d49, decide_eq_false d49, decide_eq_false d48, if_neg (by decide), if_neg (by decide)]; rfl
    · rw [if_neg c63, if_neg c63]; rfl
  · have he : s.toList = ([] : List UInt8) := by
      rw [L_toList]
      have : (L s).length = 0 := by rw [← size_L]; omega
      exact List.length_eq_zero_iff.1 this
    rw [if_pos he, if_neg h0]; rfl
def refK (o : Option (ByteArray × ByteArray)) : ByteArray × ByteArray × Int := match o with | some (k, t) => (k, t, 0) | none => (⟨#[]⟩, ⟨#[]⟩, 50)
theorem key_l (s : ByteArray) (hs : s.size ≤ 100000) (h0 : 0 < s.size) (hf : smP (bt s 0) = true ∨ bt s 0 = 42) : ∀ (m x k : Nat), x + 1 + m = s.size → m < k → (∀ j : Nat, j < x + 1 → keP (bt s j) = true) → glacisref05_Key.l0 k s ((x + 1 : Nat) : Int) = some (takB keP s, drpB keP s, 0)
  | 0, x, k, hm, hk, hj => by
    obtain ⟨k, rfl⟩ : ∃ k', k = k' + 1 := ⟨k - 1, by omega⟩
    have e := span_eq keP s (x + 1) (by omega) hj (fun h => by omega)
    rw [glacisref05_Key.l0, if_neg (by omega), if_neg (by omega), if_pos (by omega), if_pos (by omega)]
    unfold takB drpB
    rw [e]; rfl
  | m + 1, x, k, hm, hk, hj => by
    obtain ⟨k, rfl⟩ : ∃ k', k = k' + 1 := ⟨k - 1, by omega⟩
    obtain ⟨c, hc⟩ := bt_u s (x + 1) (by omega)
    have hb : ((((x + 1 : Nat) : Int)) == 0) = false := by rw [beq_eq_false_iff_ne]; omega
    rw [glacisref05_Key.l0, if_pos (by omega), if_pos (by omega), hc, hb, small_v c]
    simp only [Option.bind_some]
    by_cases hd : keP c.toNat = true
    · rw [if_pos hd, wrap_next _ (by omega)]
      refine key_l s hs h0 hf m (x + 1) k (by omega) (by omega) (fun j hjx => ?_)
      by_cases e : j = x + 1
      · subst e; rw [hc]; exact hd
      · exact hj j (by omega)
    · have e := span_eq keP s (x + 1) (by omega) hj (fun _ => by rw [hc]; exact Bool.eq_false_iff.mpr hd)
      rw [if_neg hd, if_neg (by omega), if_pos (by omega)]
      unfold takB drpB
      rw [e]; rfl
theorem key_f (s : ByteArray) (hs : s.size ≤ 100000) (k : Nat) (hk : s.size + 2 < k) : glacisref05_Key.f k s = some (refK (rdKey s)) := by
  unfold glacisref05_Key.f rdKey
  obtain ⟨k, rfl⟩ : ∃ k', k = k' + 1 := ⟨k - 1, by omega⟩
  rw [glacisref05_Key.l0]
  by_cases h0 : 0 < s.size
  · obtain ⟨c, hc⟩ := bt_u s 0 h0
    have hc' : bt s 0 = (c.toNat : Int) := hc
    rw [if_pos (by omega), if_pos (by omega), hc', show ((0 : Int) == 0) = true from rfl, small_u c]
    simp only [Option.bind_some]
    by_cases hf : smP c.toNat = true ∨ (c.toNat : Int) = 42
    · have e : (smP c.toNat || decide ((c.toNat : Int) = 42)) = true := by
        rcases hf with h | h
        · rw [h]; rfl
        · rw [decide_eq_true h, Bool.or_true]
      rw [if_pos e, if_pos ⟨h0, hf⟩]
      rw [show wrap64 ((0 : Int) + 1) = ((0 + 1 : Nat) : Int) from wrap_id _ (by omega)]
      have := key_l s hs h0 (by rw [hc']; exact hf) (s.size - 1) 0 k (by omega) (by omega) (fun j hj => by
        obtain rfl : j = 0 := by omega
        rw [hc]; exact (key_first c hf).1)
      exact this
    · have e : (smP c.toNat || decide ((c.toNat : Int) = 42)) = false := by
        rw [Bool.or_eq_false_iff]
        exact ⟨Bool.eq_false_iff.mpr (fun h => hf (Or.inl h)), decide_eq_false (fun h => hf (Or.inr h))⟩
      rw [e, if_neg (by decide), if_pos trivial, if_neg (fun h => hf h.2)]; rfl
  · rw [if_neg (by omega), if_pos rfl, if_neg (fun h => h0 h.1)]; rfl
theorem L_zero {s : ByteArray} (h : ¬ 0 < s.size) : L s = [] := by
  have : (L s).length = 0 := by rw [← size_L]; omega
  exact List.length_eq_zero_iff.1 this
theorem blank_nil (k : Nat) (s : ByteArray) (h0 : ¬ 0 < s.size) : glacisref05_Blank.l0 (k + 1) s = some (drpB spP s) := by
  rw [glacisref05_Blank.l0, if_neg (by omega)]
  congr 1
  apply L_inj
  rw [L_drp, L_zero h0]; rfl
theorem blank_stay (k : Nat) (s : ByteArray) (h0 : 0 < s.size) (h : bt s 0 ≠ 32) : glacisref05_Blank.l0 (k + 1) s = some (drpB spP s) := by
  obtain ⟨c, r, e⟩ := cons_of s h0
  rw [glacisref05_Blank.l0, if_pos (by omega), if_pos (by omega), if_neg h]
  congr 1
  apply L_inj
  rw [bt0 e] at h
  rw [L_drp, e, List.dropWhile_cons, if_neg (by unfold spP; rw [beq_iff_eq]; exact h)]
theorem blank_go (k : Nat) (s : ByteArray) (h0 : 0 < s.size) (h : bt s 0 = 32) : glacisref05_Blank.l0 (k + 1) s = glacisref05_Blank.l0 k (tl s) ∧ drpB spP s = drpB spP (tl s) := by
  obtain ⟨c, r, e⟩ := cons_of s h0
  refine ⟨by rw [glacisref05_Blank.l0, if_pos (by omega), if_pos (by omega), if_pos h, if_pos (by omega)]; rfl, ?_⟩
  apply L_inj
  rw [bt0 e] at h
  rw [L_drp, e, List.dropWhile_cons, if_pos (by unfold spP; exact beq_iff_eq.2 h), L_drp, L_tl, e]; rfl
theorem blank_l : ∀ (d : Nat) (s : ByteArray) (k : Nat), s.size ≤ d → d < k → glacisref05_Blank.l0 k s = some (drpB spP s)
  | 0, s, k, hd, hk => by
    obtain ⟨k, rfl⟩ : ∃ k', k = k' + 1 := ⟨k - 1, by omega⟩
    exact blank_nil k s (by omega)
  | d + 1, s, k, hd, hk => by
    obtain ⟨k, rfl⟩ : ∃ k', k = k' + 1 := ⟨k - 1, by omega⟩
    by_cases h0 : 0 < s.size
    · by_cases h : bt s 0 = 32
      · obtain ⟨h1, h2⟩ := blank_go k s h0 h
        have z := tl_lt s h0
        rw [h1, h2]
        exact blank_l d (tl s) k (by omega) (by omega)
      · exact blank_stay k s h0 h
    · exact blank_nil k s h0
theorem blank_f (s : ByteArray) (hs : s.size ≤ 100000) (k : Nat) (hk : s.size < k) : glacisref05_Blank.f k s = some (drpB spP s) := by
  unfold glacisref05_Blank.f
  exact blank_l s.size s k (Nat.le_refl _) hk
end Go.Proofs.YtbbaokjkmcfceaaGreatDoor.Pl
/- Chapter 5: the document's own reader: parameters, items, fields. -/
namespace Go.Proofs.YtbbaokjkmcfceaaGreatDoor.Pl
open Go.RowKit Go.Proofs.YtbbaokjkmcfceaaGreatDoor.Q Go.Proofs.YtbbaokjkmcfceaaGreatDoor.Sf Go.Proofs.YtbbaokjkmcfceaaGreatDoorW.PrintWords Go.Proofs.YtbbaokjkmcfceaaGreatDoorW.PrintLast
set_option linter.unusedVariables false
set_option linter.unusedSimpArgs false
def wMap (key : ByteArray) (p : S43) (l : List S43) : List S43 := l.map fun q => if q.f0 = key then p else q
def wAny (key : ByteArray) (l : List S43) : Bool := l.any fun q => decide (q.f0 = key)
theorem toList_inj {a b : ByteArray} : a.toList = b.toList ↔ a = b := ⟨fun h => L_inj (by rw [← L_toList, ← L_toList, h]), fun h => by rw [h]⟩
theorem s38_eta (q : S43) : (⟨q.f0, q.f1, q.f2, q.f3⟩ : S43) = q := rfl
theorem with_l (l : List S43) (hl : l.length ≤ 100000) (p : S43) : ∀ (m j k : Nat), j + m = l.length → m < k →
    glacisref05_With.l0 k l (wMap p.f0 p (l.take j)) (wAny p.f0 (l.take j)) (j : Int) p.f0 p.f1 p.f2 p.f3 = some (if wAny p.f0 l = true then wMap p.f0 p l else wMap p.f0 p l ++ [p])
  | 0, j, k, hm, hk => by
    obtain ⟨k, rfl⟩ : ∃ k', k = k' + 1 := ⟨k - 1, by omega⟩
    have e : l.take j = l := List.take_of_length_le (by omega)
    rw [glacisref05_With.l0, if_neg (by omega), e]
    by_cases h : wAny p.f0 l = true
    · rw [if_pos h, if_pos h]
    · rw [if_neg h, if_neg h, if_pos (by unfold wMap; rw [List.length_map]; omega), s38_eta]
  | m + 1, j, k, hm, hk => by
    obtain ⟨k, rfl⟩ : ∃ k', k = k' + 1 := ⟨k - 1, by omega⟩
    have hj : j < l.length := by omega
    have et : l.take (j + 1) = l.take j ++ [l[j]] := take_snoc l j hj
    have hlen : (wMap p.f0 p (l.take j)).length < 2932031007402 := by unfold wMap; rw [List.length_map, List.length_take]; omega
    have ih := with_l l hl p m (j + 1) k (by omega) (by omega)
    rw [glacisref05_With.l0, if_pos (by omega), if_pos (by omega), rd_at5 l j hj, wrap_next j (by omega)]
    by_cases h : l[j].f0 = p.f0
    · rw [if_pos (toList_inj.2 h), if_pos hlen]
      have e1 : wMap p.f0 p (l.take (j + 1)) = wMap p.f0 p (l.take j) ++ [p] := by
        unfold wMap; rw [et, List.map_append]; simp [h]
      have e2 : wAny p.f0 (l.take (j + 1)) = true := by
        unfold wAny; rw [et, List.any_append]; simp [h]
      rw [e1, e2] at ih
      exact ih
    · rw [if_neg (fun e => h (toList_inj.1 e)), if_pos hlen]
      have e1 : wMap p.f0 p (l.take (j + 1)) = wMap p.f0 p (l.take j) ++ [l[j]] := by
        unfold wMap; rw [et, List.map_append]; simp [h]
      have e2 : wAny p.f0 (l.take (j + 1)) = wAny p.f0 (l.take j) := by
        unfold wAny; rw [et, List.any_append]; simp [h]
      rw [e1, e2] at ih
      exact ih
theorem with_is (l : List S43) (hd : Dist l) (p : S43) : (if wAny p.f0 l = true then wMap p.f0 p l else wMap p.f0 p l ++ [p]) = withP p.f0 l p := by
  unfold withP
  cases hf : l.findIdx? (fun q => decide (q.f0 = p.f0)) with
  | none =>
    have hn := List.findIdx?_eq_none_iff.1 hf
    have h1 : wAny p.f0 l = false := by
      unfold wAny
      rw [List.any_eq_false]
      intro q hq; have := hn q hq; simp only [decide_eq_false_iff_not] at this; simpa using this
    have h2 : wMap p.f0 p l = l := by
      unfold wMap
      conv => rhs; rw [← List.map_id l]
      refine List.map_congr_left (fun q hq => ?_)
      have := of_decide_eq_false (hn q hq)
      rw [if_neg this]; rfl
    rw [if_neg (by rw [h1]; decide), h2]
  | some i =>
    obtain ⟨hi, h1, _⟩ := List.findIdx?_eq_some_iff_getElem.1 hf
    have hk : l[i].f0 = p.f0 := of_decide_eq_true h1
    have ha : wAny p.f0 l = true := by
      unfold wAny
      rw [List.any_eq_true]
      exact ⟨l[i], List.getElem_mem hi, by simpa using hk⟩
    rw [if_pos ha]
    simp only []
    unfold wMap
    apply List.ext_getElem
    · simp
    · intro j h1 h2
      rw [List.length_map] at h1
      rw [List.getElem_map, List.getElem_set]
      by_cases e : i = j
      · subst e; rw [if_pos hk, if_pos rfl]
      · rw [if_neg e, if_neg]
        intro hq
        unfold Dist at hd
        have q1 : (l.map (·.f0))[j]'(by simp; omega) = (l.map (·.f0))[i]'(by simp; omega) := by simp [hq, hk]
        rcases Nat.lt_or_gt_of_ne e with c | c
        · exact List.pairwise_iff_getElem.1 hd i j (by simp; omega) (by simp; omega) c q1.symm
        · exact List.pairwise_iff_getElem.1 hd j i (by simp; omega) (by simp; omega) c q1
theorem with_f (l : List S43) (hl : l.length ≤ 100000) (hd : Dist l) (key : ByteArray) (n i : Int) (t : ByteArray) (k : Nat) (hk : l.length < k) : glacisref05_With.f k l key n i t = some (withP key l ⟨key, n, i, t⟩) := by
  unfold glacisref05_With.f
  have := with_l l hl ⟨key, n, i, t⟩ l.length 0 k (by omega) hk
  have e := with_is l hd ⟨key, n, i, t⟩
  simp only [] at this e
  rw [← e]
  exact this
def refP (o : Option (List S43 × ByteArray)) : List S43 × ByteArray × Int := match o with | some (l, t) => (l, t, 0) | none => ([], ⟨#[]⟩, 50)
theorem size_atF {s : ByteArray} {c : Int} (h : atF s c = true) : 0 < s.size := (of_decide_eq_true h).1
theorem params_l : ∀ (d : Nat) (s : ByteArray) (l : List S43) (k : Nat), s.size < d → s.size ≤ 20000 → l.length + s.size ≤ 20000 → Dist l → 3 * s.size + 60000 < k → glacisref05_Params.l0 k s l = some (refP (pF d s l))
  | 0, s, l, k, hd, hs, hl, hD, hk => by omega
  | d + 1, s, l, k, hd, hs, hl, hD, hk => by
    obtain ⟨k, rfl⟩ : ∃ k', k = k' + 3 := ⟨k - 3, by omega⟩
    have hj : glacisref05_Params.l0 (k + 3) s l = glacisref05_Params.j1 (k + 2) s l (atF s 59) := by
      rw [glacisref05_Params.l0]
      unfold atF
      by_cases h0 : 0 < s.size
      · rw [if_pos (by omega), if_pos (by omega)]
        by_cases h59 : bt s 0 = 59
        · rw [decide_eq_true ⟨h0, h59⟩, beq_iff_eq.2 h59]
        · rw [decide_eq_false (fun h => h59 h.2), beq_eq_false_iff_ne.2 h59]
      · rw [if_neg (by omega), decide_eq_false (fun h => h0 h.1)]
    rw [hj, glacisref05_Params.j1, pF]
    by_cases h59 : atF s 59 = true
    · have h0 := size_atF h59
      have z0 := tl_lt s h0
      rw [if_pos h59, if_pos h59, if_pos (by omega), ← tl_is, blank_f (tl s) (by omega) _ (by omega)]
      simp only [Option.bind_some]
      have z1 := drp_size spP (tl s)
      rw [key_f _ (by omega) _ (by omega)]
      simp only [Option.bind_some]
      cases hK : rdKey (drpB spP (tl s)) with
      | none =>
        rw [if_neg (show ¬ (refK none).2.2 = 0 by decide)]; rfl
      | some kr =>
        obtain ⟨key, t⟩ := kr
        have z2 := key_rest hK
        rw [if_pos (show (refK (some (key, t))).2.2 = 0 from rfl)]
        have hj2 : (if (t.size : Int) > 0 then (if 0 < (t.size : Int) then (glacisref05_Params.j2 (k + 1) t l key ((bt t 0) == 61) (⟨#[]⟩ : ByteArray) 6 1 (⟨#[]⟩ : ByteArray)) else none) else (glacisref05_Params.j2 (k + 1) t l key false (⟨#[]⟩ : ByteArray) 6 1 (⟨#[]⟩ : ByteArray))) = glacisref05_Params.j2 (k + 1) t l key (atF t 61) ⟨#[]⟩ 6 1 ⟨#[]⟩ := by
          unfold atF
          by_cases h0 : 0 < t.size
          · rw [if_pos (by omega), if_pos (by omega)]
            by_cases h61 : bt t 0 = 61
            · rw [decide_eq_true ⟨h0, h61⟩, beq_iff_eq.2 h61]
            · rw [decide_eq_false (fun h => h61 h.2), beq_eq_false_iff_ne.2 h61]
          · rw [if_neg (by omega), decide_eq_false (fun h => h0 h.1)]
        refine Eq.trans hj2 ?_
        show _ = some (refP (if atF t 61 = true then (rdValue (tl t)).bind fun vr => pF d vr.2 (withP key l ⟨key, vr.1.1, vr.1.2.1, vr.1.2.2⟩) else pF d t (withP key l ⟨key, 6, 1, ⟨#[]⟩⟩)))
        rw [glacisref05_Params.j2]
        by_cases h61 : atF t 61 = true
        · have h1 := size_atF h61
          have z3 := tl_lt t h1
          rw [if_pos h61, if_pos h61, if_pos (by omega), ← tl_is, value_f (tl t) (by omega) _ (by omega)]
          simp only [Option.bind_some]
          cases hV : rdValue (tl t) with
          | none => rw [if_neg (show ¬ (refV none).2.2.2.2.2 = true by decide)]; rfl
          | some vr =>
            obtain ⟨⟨n, i, tx⟩, t3⟩ := vr
            have z4 := value_rest hV
            rw [if_pos (show (refV (some ((n, i, tx), t3))).2.2.2.2.2 = true from rfl)]
            show (Option.bind (glacisref05_With.f k l key n i tx) fun t208 => glacisref05_Params.l0 k t3 t208) = some (refP (pF d t3 (withP key l ⟨key, n, i, tx⟩)))
            rw [with_f l (by omega) hD key n i tx _ (by omega)]
            simp only [Option.bind_some]
            have zl := withP_len key l ⟨key, n, i, tx⟩
            exact params_l d t3 _ k (by omega) (by omega) (by omega) (dist_with _ _ _ rfl hD) (by omega)
        · rw [if_neg h61, if_neg h61, with_f l (by omega) hD key 6 1 ⟨#[]⟩ _ (by omega)]
          simp only [Option.bind_some]
          have zl := withP_len key l ⟨key, 6, 1, ⟨#[]⟩⟩
          exact params_l d t _ k (by omega) (by omega) (by omega) (dist_with _ _ _ rfl hD) (by omega)
    · rw [if_neg h59, if_neg h59]; rfl
theorem params_f (s : ByteArray) (hs : s.size ≤ 20000) (k : Nat) (hk : 3 * s.size + 60000 < k) : glacisref05_Params.f k s = some (refP (rdParams s)) := by
  unfold glacisref05_Params.f rdParams
  exact params_l (s.size + 1) s [] k (by omega) hs (by simpa using hs) (by unfold Dist; simp) hk
def refN (o : Option ((Int × Int × ByteArray) × List S43 × ByteArray)) : Int × Int × ByteArray × List S43 × ByteArray × Int := match o with | some (v, l, t) => (v.1, v.2.1, v.2.2, l, t, 0) | none => (0, 0, ⟨#[]⟩, [], ⟨#[]⟩, 50)
theorem next_f (s : ByteArray) (hs : s.size ≤ 20000) (k : Nat) (hk : 3 * s.size + 60000 < k) : glacisref05_Next.f k s = some (refN (rdNext s)) := by
  unfold glacisref05_Next.f rdNext
  rw [value_f s (by omega) k (by omega)]
  simp only [Option.bind_some]
  cases hV : rdValue s with
  | none => rw [if_neg (show ¬ (refV none).2.2.2.2.2 = true by decide)]; rfl
  | some vr =>
    obtain ⟨⟨n, i, tx⟩, t⟩ := vr
    have z := value_rest hV
    rw [if_pos (show (refV (some ((n, i, tx), t))).2.2.2.2.2 = true from rfl)]
    show (Option.bind (glacisref05_Params.f k t) fun bt222 => if bt222.2.2 = 0 then some (n, i, tx, bt222.1, bt222.2.1, 0) else some (0, 0, (⟨#[]⟩ : ByteArray), ([] : List (S43)), (⟨#[]⟩ : ByteArray), bt222.2.2)) = some (refN ((rdParams t).bind fun p => some ((n, i, tx), p.1, p.2)))
    rw [params_f t (by omega) k (by omega)]
    simp only [Option.bind_some]
    cases hP : rdParams t with
    | none => rw [if_neg (show ¬ (refP none).2.2 = 0 by decide)]; rfl
    | some lr =>
      obtain ⟨l, r⟩ := lr
      rw [if_pos (show (refP (some (l, r))).2.2 = 0 from rfl)]; rfl
/-- Trimming from the left, then from the right. -/
def trimR (u : List UInt8) : List UInt8 := (u.reverse.dropWhile (· == 32)).reverse
theorem trimR_cons (c : UInt8) (u : List UInt8) : trimR (u ++ [c]) = if c = 32 then trimR u else u ++ [c] := by
  unfold trimR
  rw [List.reverse_append, List.reverse_singleton, List.singleton_append, List.dropWhile_cons]
  by_cases h : c = 32
  · rw [if_pos (by simpa using h), if_pos h]
  · rw [if_neg (by simpa using h), if_neg h]; simp
theorem trimR_head (x : UInt8) (u : List UInt8) (hx : x ≠ 32) : trimR (x :: u) = x :: trimR u := by
  unfold trimR
  rw [List.reverse_cons]
  have key : ∀ v : List UInt8, (v ++ [x]).dropWhile (· == 32) = v.dropWhile (· == 32) ++ [x] := by
    intro v
    induction v with
    | nil => rw [List.nil_append, List.dropWhile_cons, if_neg (by simpa using hx)]; rfl
    | cons y v ih =>
      rw [List.cons_append, List.dropWhile_cons, List.dropWhile_cons]
      by_cases h : (y == 32) = true
      · rw [if_pos h, if_pos h, ih]
      · rw [if_neg h, if_neg h]; rfl
  rw [key, List.reverse_append]; rfl
theorem trimR_cons32 (u : List UInt8) : (trimR (32 :: u)).dropWhile (· == 32) = (trimR u).dropWhile (· == 32) := by
  unfold trimR
  rw [List.reverse_cons]
  have key : ∀ v : List UInt8, (v ++ [32]).dropWhile (· == 32) = if v.dropWhile (· == 32) = [] then [] else v.dropWhile (· == 32) ++ [32] := by
    intro v
    induction v with
    | nil => rfl
    | cons y v ih =>
      rw [List.cons_append, List.dropWhile_cons, List.dropWhile_cons]
      by_cases h : (y == 32) = true
      · rw [if_pos h, if_pos h, ih]
      · rw [if_neg h, if_neg h, if_neg (by simp)]; rfl
  rw [key]
  by_cases h : u.reverse.dropWhile (· == 32) = []
  · rw [if_pos h, h]
  · rw [if_neg h, List.reverse_append]; simp
theorem trim_comm (u : List UInt8) : trimR (u.dropWhile (· == 32)) = (trimR u).dropWhile (· == 32) := by
  induction u with
  | nil => rfl
  | cons x u ih =>
    rw [List.dropWhile_cons]
    by_cases h : (x == 32) = true
    · have : x = 32 := by simpa using h
      subst this
      rw [if_pos h, ih, trimR_cons32]
    · rw [if_neg h, trimR_head x u (by simpa using h), List.dropWhile_cons, if_neg h]
theorem right_nil (k : Nat) (s : ByteArray) (h0 : ¬ 0 < s.size) : glacisref05_Trim.l0 (k + 1) s = some (B (trimR (L s))) := by
  rw [glacisref05_Trim.l0, if_neg (by omega)]
  congr 1
  apply L_inj
  rw [L_B, L_zero h0]; rfl
theorem last_split (s : ByteArray) (h0 : 0 < s.size) : ∃ c : UInt8, bt s ((s.size - 1 : Nat) : Int) = (c.toNat : Int) ∧ L s = L (s.extract 0 (s.size - 1)) ++ [c] := by
  have hx : s.size - 1 < (L s).length := by rw [← size_L]; omega
  refine ⟨(L s)[s.size - 1], bt_L s _ hx, ?_⟩
  rw [L_ext0, ← take_snoc (L s) (s.size - 1) hx, List.take_of_length_le (by rw [← size_L]; omega)]
theorem wrap_pred (n : Nat) (h0 : 0 < n) (h : n ≤ 100000) : wrap64 ((n : Int) - 1) = ((n - 1 : Nat) : Int) := by unfold wrap64; omega
theorem right_step (k : Nat) (s : ByteArray) (h0 : 0 < s.size) (hs : s.size ≤ 100000) : glacisref05_Trim.l0 (k + 1) s = if bt s ((s.size - 1 : Nat) : Int) = 32 then glacisref05_Trim.l0 k (s.extract 0 (s.size - 1)) else some s := by
  have p1 : ((s.size : Int)) > 0 := by omega
  have p2 : (0 : Int) ≤ (((s.size - 1 : Nat) : Int)) := by omega
  have p3 : (((s.size - 1 : Nat) : Int)) < (s.size : Int) := by omega
  have p4 : (((s.size - 1 : Nat) : Int)) ≤ (s.size : Int) := by omega
  rw [glacisref05_Trim.l0, if_pos p1, wrap_pred _ h0 hs, if_pos p2, if_pos p3, if_pos p4]
  rfl
theorem right_l : ∀ (d : Nat) (s : ByteArray) (k : Nat), s.size ≤ d → s.size ≤ 100000 → d < k → glacisref05_Trim.l0 k s = some (B (trimR (L s)))
  | 0, s, k, hd, hs, hk => by
    obtain ⟨k, rfl⟩ : ∃ k', k = k' + 1 := ⟨k - 1, by omega⟩
    exact right_nil k s (by omega)
  | d + 1, s, k, hd, hs, hk => by
    obtain ⟨k, rfl⟩ : ∃ k', k = k' + 1 := ⟨k - 1, by omega⟩
    by_cases h0 : 0 < s.size
    · obtain ⟨c, hc, el⟩ := last_split s h0
      have hz : (s.extract 0 (s.size - 1)).size + 1 = s.size := by rw [ByteArray.size_extract]; omega
      rw [right_step k s h0 hs, hc]
      by_cases h32 : (c.toNat : Int) = 32
      · rw [if_pos h32, right_l d _ k (by omega) (by omega) (by omega), el, trimR_cons, if_pos (u_eq h32)]
      · rw [if_neg h32]
        congr 1
        apply L_inj
        rw [L_B, el, trimR_cons, if_neg (fun e => h32 (by rw [e]; rfl))]
    · exact right_nil k s h0
theorem trim_f (s : ByteArray) (hs : s.size ≤ 100000) (k : Nat) (hk : s.size < k) : glacisref05_Trim.f k s = some (trimSp s) := by
  unfold glacisref05_Trim.f
  rw [blank_f s hs k hk]
  simp only [Option.bind_some]
  have z := drp_size spP s
  rw [right_l s.size _ k z (by omega) hk]
  congr 1
  apply L_inj
  have ht : L (trimSp s) = Lib.trimB (L s) 32 := by unfold trimSp L; simp
  have hp : (fun c : UInt8 => spP c.toNat) = (fun c : UInt8 => c == 32) := by
    funext c
    have := allU (fun c : UInt8 => spP c.toNat == (c == 32)) (by decide +kernel) c
    exact beq_iff_eq.1 this
  rw [L_B, ht, L_drp, hp, trim_comm]
  rfl
theorem parse_f (s : ByteArray) (hs : s.size ≤ 20000) (k : Nat) (hk : 130000 < k) : glacisref05_Parse.f k s = sfitem_Parse.f s := by
  unfold glacisref05_Parse.f sfitem_Parse.f strings_Trim.f
  have hz : (trimSp s).size ≤ s.size := by
    have : L (trimSp s) = Lib.trimB (L s) 32 := by unfold trimSp L; simp
    rw [size_L, size_L, this]; exact trim_len _
  have hbig : s.size ≤ 9223372036854775807 := by omega
  have hmid : (trimSp s).size ≤ 2199023255552 := by omega
  rw [trim_f s (by omega) k (by omega), if_pos (show (⟨#[32]⟩ : ByteArray) = ⟨#[32]⟩ ∧ s.size ≤ 9223372036854775807 from ⟨rfl, hbig⟩)]
  simp only [Option.bind_some]
  rw [next_f _ (by omega) k (by omega)]
  unfold sfitem_Next.f
  rw [if_pos hmid]
  simp only [Option.bind_some]
  clear hbig hmid
  cases rdNext (trimSp s) with
  | none =>
    by_cases h4 : (s.size : Int) > 4000
    · rw [if_pos h4]; rfl
    · rw [if_neg h4]; rfl
  | some x =>
    obtain ⟨v, l, t⟩ := x
    rw [if_pos (show (refN (some (v, l, t))).2.2.2.2.2 = 0 from rfl)]
    show _ = (if (0 : Int) = 0 then (if t.toList = ([] : List UInt8) then (if (s.size : Int) > 4000 then some ((0 : Int), (0 : Int), (⟨#[]⟩ : ByteArray), ([] : List (S43)), (50 : Int)) else some (v.1, v.2.1, v.2.2, l, (0 : Int))) else some ((0 : Int), (0 : Int), (⟨#[]⟩ : ByteArray), ([] : List (S43)), (50 : Int))) else some ((0 : Int), (0 : Int), (⟨#[]⟩ : ByteArray), ([] : List (S43)), (50 : Int)))
    rw [if_pos (show (0 : Int) = 0 from rfl)]
    by_cases h4 : (s.size : Int) > 4000
    · rw [if_pos h4]
      by_cases ht : t.toList = ([] : List UInt8)
      · rw [if_pos ht, if_pos h4]
      · rw [if_neg ht]
    · rw [if_neg h4]
      by_cases ht : t.toList = ([] : List UInt8)
      · rw [if_pos (show (refN (some (v, l, t))).2.2.2.2.1.toList = ([] : List UInt8) from ht), if_pos ht, if_neg h4]; rfl
      · rw [if_neg (show ¬ (refN (some (v, l, t))).2.2.2.2.1.toList = ([] : List UInt8) from ht), if_neg ht]
end Go.Proofs.YtbbaokjkmcfceaaGreatDoor.Pl
/- The item that any field is, or its error, is what the document says: over the printed functions. -/
namespace Go.Proofs.YtbbaokjkmcfceaaGreatDoor.Pure
open Go.RowKit Go.Proofs.YtbbaokjkmcfceaaGreatDoor.Q Go.Proofs.YtbbaokjkmcfceaaGreatDoor.Sf Go.Proofs.YtbbaokjkmcfceaaGreatDoor.Pl Go.Proofs.YtbbaokjkmcfceaaGreatDoorW.PrintWords Go.Proofs.YtbbaokjkmcfceaaGreatDoorW.PrintLast
set_option linter.unusedVariables false
theorem parse_sure (s : ByteArray) (h : s.size ≤ 20000) : ∃ n i t l e, sfitem_Parse.f s = some (n, i, t, l, e) ∧ l.length ≤ s.size := by
  unfold sfitem_Parse.f strings_Trim.f
  rw [if_pos ⟨rfl, by omega⟩]
  simp only [Option.bind_some]
  have hz : (trimSp s).size ≤ s.size := by
    have : L (trimSp s) = Lib.trimB (L s) 32 := by unfold trimSp L; simp
    rw [size_L, size_L, this]; exact trim_len _
  unfold sfitem_Next.f
  rw [if_pos (by omega)]
  cases hn : rdNext (trimSp s) with
  | none => exact ⟨_, _, _, _, _, rfl, by simp⟩
  | some x =>
    obtain ⟨v, l, t⟩ := x
    obtain ⟨u, a1, a2, a3⟩ := next_inv hn
    have hc := it_count a2
    have hu : u.length ≤ (trimSp s).size := by rw [size_L, a1, List.length_append]; omega
    simp only [Option.bind_some]
    rw [if_pos trivial]
    split
    · split
      · exact ⟨_, _, _, _, _, rfl, by simp⟩
      · exact ⟨_, _, _, _, _, rfl, by omega⟩
    · exact ⟨_, _, _, _, _, rfl, by simp⟩
theorem SfitemReads : ∀ (a0 : ByteArray), a0.size ≤ 140737488351232 → ∃ k, glacislaw05_SfitemReads.f k a0 = some true := by
  intro s _
  refine ⟨200000, ?_⟩
  unfold glacislaw05_SfitemReads.f
  rw [awake05]
  simp only [Option.bind_some]
  by_cases hs : (s.size : Int) > 5000
  · rw [if_pos hs]
  rw [if_neg hs, parse_f s (by omega) 200000 (by omega)]
  obtain ⟨n, i, t, l, e, hp, hl⟩ := parse_sure s (by omega)
  rw [hp]
  simp only [Option.bind_some]
  rw [same_refl l (by omega) _ _ _ 200000 (by omega)]
  simp only [Option.bind_some]
  rw [if_pos trivial, if_pos trivial]
  simp
end Go.Proofs.YtbbaokjkmcfceaaGreatDoor.Pure
/- The law glacis/glacislaw05.SfitemReads, for every input: its call returns true and leaves its arguments as they were; the row, and its card. Its conditions: the row's own. -/
namespace Go.Proofs.YtbbaokjkmcfceaaGreatDoor.sfitemReads
open Go.ChangeShapes Go.WideShapes Go.ChangeAt Go.RowKit
open Go.Proofs.YtbbaokjkmcfceaaGreatDoor Go.Proofs.YtbbaokjkmcfceaaGreatDoorW.PrintWords
open Go.ChangeMaps (open_string shut_string)
open Go.Proofs.YtbbaokjkmcfceaaGreatDoor.rc
set_option linter.unusedVariables false
theorem walk (W : World) (hT : Aside0 (Q.TabW W)) (a0 : ByteArray) (h0 : a0.size ≤ 140737488351232) :
    Calls Tryz.prog 3 #[.string a0] W fun e w' => e = .returned (.bool true) ∧ Below W.heap.size W w' := by
  obtain ⟨k, h⟩ := YtbbaokjkmcfceaaGreatDoor.Pure.SfitemReads a0 h0
  refine (YtbbaokjkmcfceaaGreatDoor.Q.glacislaw05_SfitemReads.calls k a0 true W hT h).mono ?_
  rintro e w' ⟨rfl, hd⟩
  first | exact ⟨rfl, hd⟩ | exact ⟨rfl, hd.below⟩
set_option maxRecDepth 100000 in
theorem contract (H : Type) (enc : TypeId × Value → H) (W : World) (hT : Aside0 (Q.TabW W)) (base : Nat) (args : Array Value) (ds gs : List (DataW H)) (before : List MemPlace)
    (hval : ∀ (j : Nat) t v, Tryz.f3.params[j]? = some t → args[j]? = some v → Value.okWide Tryz.prog W .any base t v)
    (hW : DataW.Whole enc Tryz.prog Tryz.f3.params.toList Rows.sfitemReadsSpec.vars false W args.toList ds gs before)
    (hsz : (DataW.weightsEach Tryz.prog (Tryz.f3.params.toList ++ Rows.sfitemReadsSpec.plain.varTypes Tryz.prog) (ds ++ gs)).all (· ≤ reachBytes) = true) :
    Calls Tryz.prog 3 args W fun e W' => ∃ v, e = .returned v ∧ Rows.sfitemReadsSpec.post enc Tryz.prog Tryz.f3 false true false false W args v W' := by
  have hW' := hW
  obtain ⟨p, q, hA0, hV, rfl, hfz, hnd⟩ := hW
  have hA : DataW.TrodAll enc Tryz.prog W 0 (fun _ => true) true Tryz.f3.params.toList args.toList ds p := hA0
  rw [Tryz.params3] at hA hval hsz
  obtain ⟨v0, vs0, d0, ds0, p0, q0, hargs, rfl, rfl, h0, r0⟩ := trodAll_cons hA
  obtain ⟨rfl, rfl, rfl⟩ := trodAll_nil r0
  obtain rfl : args = #[v0] := by cases args; simp_all
  obtain ⟨rfl, rfl⟩ := trodVars_none hV
  obtain ⟨a0, rfl, rfl, rfl, y0⟩ := open_string Tryz.underlying9 (hval 0 9 v0 rfl rfl) h0
  have w0 : a0.size ≤ 140737488351232 := by
    have z := sized_string hsz (j := 0) (t := 9) rfl rfl
    rw [Array.length_toList] at z
    exact z
  clear hA0
  refine (walk W hT a0 w0).mono fun e W' ⟨he, bel⟩ => ?_
  subst he
  exact ⟨_, rfl, _, _, _, [], _, [], hW', trodAll_mk1 (shut_bool Tryz.underlying4 _), (trodAll_cons_mk (shut_string Tryz.underlying9 y0) trodAll_mk0), rfl, bel.frame _, fun h => by cases h⟩
theorem laid_met (os : Os) : laidMet Tryz.prog Rows.sfitemReadsRow.laid ((laidWorld os).forCall (fun _ _ => 0) ⟨#[], #[.string ByteArray.empty], []⟩).memory :=
  laidMet_of_run' 8 (by kernel_rfl) (by kernel_rfl)
theorem reads (os : Os) {H : Type} (enc : TypeId × Value → H) : ∃ places, DataW.whole enc Tryz.prog ((laidWorld os).forCall (fun _ _ => 0) ⟨#[], #[.string ByteArray.empty], []⟩).memory Tryz.f3.params.toList Rows.sfitemReadsSpec.vars false (#[.string ByteArray.empty] : Array Value).toList 8 = some ([.lit (.string [])], [], places) :=
  ⟨[], by kernel_rfl⟩
set_option maxRecDepth 100000 in
theorem lifted (os : Os) (started : os.Started) (H : Type) (enc : TypeId × Value → H) (F : Stop.Interp) :
    ReturnsInHanded {} Tryz.checked os 3 .any ((OpenSpec.ofChange Rows.sfitemReadsSpec).preRow enc Tryz.prog Tryz.f3 Rows.sfitemReadsRow.domain false Rows.sfitemReadsRow.laid) (((OpenSpec.ofChange Rows.sfitemReadsSpec).at F).post enc Tryz.prog Tryz.f3 false true false false) := by
  obtain ⟨places, hx⟩ := reads os enc
  refine returnsInHanded_of_row (C := Tryz.checked) (s := (OpenSpec.ofChange Rows.sfitemReadsSpec)) own started (by kernel_rfl) Tryz.func3
    (witness_row_at (enc := enc) (C := Tryz.checked) false (laidWorld os) #[.string ByteArray.empty] rfl (by kernel_rfl) (by kernel_rfl) (by kernel_rfl)
      (OpenSpec.preRow_of_cond 8 hx (by kernel_rfl) (fun k hk => by cases hk) (by kernel_rfl) (laid_met os))) ?_
  intro W base args ds gs before hval hW _ hcond hsz hL _ _
  have hL1 := laidMet.tail hL
  have hL2 := laidMet.tail hL1
  have hT : Lib.TabIs Tryz.prog W "internal/strconv.uint64pow10" .u64 Lib.pow10Tab := Lib.tabIs_of_head (g := 3) (by kernel_rfl) (by kernel_rfl) Tryz.underlying110 Tryz.underlying98 (by kernel_rfl) (by kernel_rfl) hL2
  exact contract H enc W (Aside0.mk hT) base args ds gs before hval hW hsz
theorem said : Rows.SfitemReadsSaid :=
  OpenClaim.holds_of_cond 3 Tryz.f3 rfl rfl rfl rfl rfl rfl rfl ⟨rfl, rfl, rfl, rfl, rfl⟩ rfl rfl rfl rfl rfl (by kernel_rfl) Tryz.func3 (by kernel_rfl)
    (of_decide_eq_true (by kernel_rfl)) (by unfold Func.isWrapper; first | (rw [if_pos (by decide +kernel)]; kernel_rfl) | (rw [if_neg (by decide +kernel)]; exact ⟨rfl, rfl⟩))
    (fun os started H enc _ F => by rw [OpenClaim.pre_eq_preRow]; exact lifted os started H enc F)
theorem plain (f : FuncId) (fn : Func) (hf : Tryz.pinned.checked.prog.funcNamed "glacis/glacislaw05.SfitemReads" = some f) (hfn : Tryz.pinned.checked.prog.funcs[f]? = some fn) :
    true = Tryz.pinned.checked.prog.looks [] ∧ ∀ (j : Nat) t, fn.params[j]? = some t → Tryz.pinned.checked.prog.wantsStandIn t = false := by
  obtain rfl : f = 3 := Option.some.inj ((show Tryz.prog.funcNamed "glacis/glacislaw05.SfitemReads" = some 3 by kernel_rfl).symm.trans hf) |>.symm
  obtain rfl : fn = Tryz.f3 := (Option.some.inj (Tryz.func3.symm.trans hfn)).symm
  refine ⟨by kernel_rfl, fun j t ht => ?_⟩
  rw [Tryz.params3] at ht
  have hm : t ∈ [9] := by simpa using Array.mem_of_getElem? ht
  have hall : ([9].all fun u => !Tryz.prog.wantsStandIn u) = true := by kernel_rfl
  exact (show Tryz.prog.wantsStandIn t = false by simpa using List.all_eq_true.1 hall t hm)
/-- THE CARD. -/
theorem card : Rows.SfitemReadsCardSaid :=
  Claim7.holds_tied_plain_at .later [] _ _ _ _ said (fun _ h => by cases h) (by kernel_rfl) (fun _ h => by cases h) sfitemReads_row_tie rfl ⟨rfl, rfl⟩ (by kernel_rfl) rfl plain (by kernel_rfl)
#print axioms card
end Go.Proofs.YtbbaokjkmcfceaaGreatDoor.sfitemReads
