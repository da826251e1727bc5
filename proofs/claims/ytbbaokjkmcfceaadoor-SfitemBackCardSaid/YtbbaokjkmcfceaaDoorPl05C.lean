/- Chapter 5: values' text, there and back. -/
import Derived.Test.YtbbaokjkmcfceaaDoorPl05
import Derived.Test.YtbbaokjkmcfceaaDoorPl05B
namespace Go.Proofs.YtbbaokjkmcfceaaDoor.Pl
open Go.RowKit Go.Proofs.YtbbaokjkmcfceaaDoor.Q Go.Proofs.YtbbaokjkmcfceaaDoor.Sf Go.Proofs.YtbbaokjkmcfceaaDoorW.PrintWords Go.Proofs.YtbbaokjkmcfceaaDoorW.PrintLast
set_option linter.unusedVariables false
set_option linter.unusedSimpArgs false
/-! ### Numbers' digits -/
theorem numL_fold : ∀ (b : List UInt8) (acc : Nat), b.foldl (fun a c => a * 10 + (c.toNat - 48)) acc = acc * 10 ^ b.length + numL b
  | [], acc => by simp [numL]
  | c :: b, acc => by
    have h1 := numL_fold b (acc * 10 + (c.toNat - 48))
    have h2 := numL_fold b (0 * 10 + (c.toNat - 48))
    have e : numL (c :: b) = b.foldl (fun a c => a * 10 + (c.toNat - 48)) (0 * 10 + (c.toNat - 48)) := rfl
    rw [List.foldl_cons, h1, e, h2, List.length_cons, Nat.pow_succ]
    simp only [Nat.add_mul, Nat.zero_mul, Nat.zero_add, Nat.mul_assoc, Nat.mul_comm 10 (10 ^ b.length), Nat.add_assoc]
theorem numL_app (a b : List UInt8) : numL (a ++ b) = numL a * 10 ^ b.length + numL b := by
  have : numL (a ++ b) = b.foldl (fun a c => a * 10 + (c.toNat - 48)) (numL a) := by unfold numL; rw [List.foldl_append]
  rw [this, numL_fold]
theorem numL_bound (l : List UInt8) (h : ∀ c ∈ l, dgU c = true) : numL l < 10 ^ l.length := by
  have := num_bound l 0 h
  rw [Nat.zero_add, Nat.one_mul] at this
  exact this
theorem ofNat_dg (d : Nat) (h : d < 10) : dgU (UInt8.ofNat (48 + d)) = true ∧ (UInt8.ofNat (48 + d)).toNat - 48 = d := by
  have : ((List.range 10).all fun d => dgU (UInt8.ofNat (48 + d)) && decide ((UInt8.ofNat (48 + d)).toNat - 48 = d)) = true := by decide +kernel
  have := List.all_eq_true.1 this d (List.mem_range.2 h)
  simpa using this
theorem dec_all (u : Nat) : (∀ c ∈ Lib.decDigits u, dgU c = true) ∧ numL (Lib.decDigits u) = u := by
  induction u using Nat.strongRecOn with
  | _ u ih =>
    by_cases h : u < 10
    · rw [Lib.decDigits, dif_pos h]
      have := ofNat_dg u h
      exact ⟨fun c hc => by obtain rfl := List.mem_singleton.1 hc; exact this.1, by show 0 * 10 + ((UInt8.ofNat (48 + u)).toNat - 48) = u; rw [this.2]; omega⟩
    · rw [Lib.decDigits, dif_neg h]
      have k := ih (u / 10) (by omega)
      have d := ofNat_dg (u % 10) (by omega)
      refine ⟨fun c hc => ?_, ?_⟩
      · rcases List.mem_append.1 hc with hc | hc
        · exact k.1 c hc
        · obtain rfl := List.mem_singleton.1 hc; exact d.1
      · rw [numL_app, k.2]
        have : numL [UInt8.ofNat (48 + u % 10)] = u % 10 := by show 0 * 10 + ((UInt8.ofNat (48 + u % 10)).toNat - 48) = u % 10; rw [d.2]; omega
        rw [this]; simp; omega
theorem dec_ne (u : Nat) : Lib.decDigits u ≠ [] := by
  rw [Lib.decDigits]; split <;> simp
theorem dec_len : ∀ (n u : Nat), u < 10 ^ (n + 1) → (Lib.decDigits u).length ≤ n + 1
  | 0, u, h => by rw [Lib.decDigits, dif_pos (by simpa using h)]; simp
  | n + 1, u, h => by
    rw [Lib.decDigits]
    split
    · simp
    · have := dec_len n (u / 10) (by rw [Nat.pow_succ] at h; omega)
      simp; omega
def sgO (i : Int) : List UInt8 := if i < 0 then [45] else []
theorem sgO_or (i : Int) : sgO i = [] ∨ sgO i = [45] := by unfold sgO; split <;> simp
theorem sgO_val (i : Int) : sgV (sgO i) * (i.natAbs : Int) = i := by
  unfold sgO sgV; split <;> simp <;> omega
theorem itoa_L (i : Int) : L (itoaBA i) = sgO i ++ Lib.decDigits i.natAbs := by
  have : L (itoaBA i) = Lib.itoa i := by unfold L itoaBA; simp
  rw [this]; unfold Lib.itoa sgO
  split
  · rfl
  · rw [show i.toNat = i.natAbs by omega]; rfl
theorem L_toList (s : ByteArray) : s.toList = L s := Lib.toList_data s
theorem L_nil : L (⟨#[]⟩ : ByteArray) = [] := rfl
theorem empty_of {t : ByteArray} (h : t.toList.isEmpty = true) : L t = [] := by rw [L_toList] at h; simpa using h
theorem int_back (i : Int) (h : -999999999999999 ≤ i ∧ i ≤ 999999999999999) : VT (L (itoaBA i)) 1 i [] := by
  have hd := dec_all i.natAbs
  have := VT.int (sgO i) (Lib.decDigits i.natAbs) (sgO_or i) (dec_ne _) hd.1 (dec_len 14 _ (by omega))
  rw [hd.2, sgO_val] at this
  rw [itoa_L]; exact this
/-! ### Thousandths -/
def frL (r : Nat) : List UInt8 := let z := Lib.trimRightB [UInt8.ofNat (48 + r / 100), UInt8.ofNat (48 + r / 10 % 10), UInt8.ofNat (48 + r % 10)] 48; if z = [] then [48] else z
set_option maxRecDepth 100000 in
theorem fr_all : ((List.range 1000).all fun r => (frL r).all dgU && (decide (frL r ≠ []) && (decide ((frL r).length ≤ 3) && decide (numL (frL r ++ zerL (frL r).length) = r)))) = true := by decide +kernel
theorem fr_at (r : Nat) (h : r < 1000) : (∀ c ∈ frL r, dgU c = true) ∧ frL r ≠ [] ∧ (frL r).length ≤ 3 ∧ numL (frL r ++ zerL (frL r).length) = r := by
  have := List.all_eq_true.1 fr_all r (List.mem_range.2 h)
  simp only [Bool.and_eq_true, decide_eq_true_eq, List.all_eq_true] at this
  exact ⟨this.1, this.2.1, this.2.2.1, this.2.2.2⟩
theorem dec_thousand (r : Nat) (h : r < 1000) : Lib.decDigits (1000 + r) = [49, UInt8.ofNat (48 + r / 100), UInt8.ofNat (48 + r / 10 % 10), UInt8.ofNat (48 + r % 10)] := by
  rw [Lib.decDigits, dif_neg (by omega), Lib.decDigits, dif_neg (by omega), Lib.decDigits, dif_neg (by omega), Lib.decDigits, dif_pos (by omega)]
  rw [show (1000 + r) / 10 / 10 / 10 = 1 by omega, show (1000 + r) / 10 / 10 % 10 = r / 100 by omega, show (1000 + r) / 10 % 10 = r / 10 % 10 by omega, show (1000 + r) % 10 = r % 10 by omega]
  rfl
theorem trimZ_L (s : ByteArray) : L (trimZ s) = Lib.trimRightB (L s) 48 := by unfold trimZ L; simp
theorem frac_L (m : Nat) : L (fracB m) = frL (m % 1000) := by
  have h1 : L (itoaBA (1000 + Int.tmod (m : Int) 1000)) = Lib.decDigits (1000 + m % 1000) := by
    have e : (1000 + Int.tmod (m : Int) 1000) = ((1000 + m % 1000 : Nat) : Int) := by rw [Int.tmod_eq_emod_of_nonneg (by omega)]; omega
    rw [e, itoa_L]
    have : sgO ((1000 + m % 1000 : Nat) : Int) = [] := by unfold sgO; rw [if_neg (by omega)]
    rw [this, Int.natAbs_natCast]; rfl
  have h2 : L (tailZ (m : Int)) = Lib.trimRightB [UInt8.ofNat (48 + m % 1000 / 100), UInt8.ofNat (48 + m % 1000 / 10 % 10), UInt8.ofNat (48 + m % 1000 % 10)] 48 := by
    unfold tailZ
    rw [trimZ_L]
    have : L ((itoaBA (1000 + Int.tmod (m : Int) 1000)).extract 1 (itoaBA (1000 + Int.tmod (m : Int) 1000)).size) = (L (itoaBA (1000 + Int.tmod (m : Int) 1000))).tail := L_tl _
    rw [this, h1, dec_thousand _ (by omega)]; rfl
  unfold fracB frL
  simp only []
  by_cases hz : 0 < (tailZ (m : Int)).size
  · rw [if_pos hz]
    obtain ⟨c, r, e⟩ := cons_of _ hz
    rw [← h2, if_neg (by rw [e]; simp)]
  · rw [if_neg hz]
    have e : L (tailZ (m : Int)) = [] := by rw [size_L] at hz; exact List.length_eq_zero_iff.1 (by omega)
    rw [← h2, if_pos e]; rfl
theorem dec_L (i : Int) : L (decB i) = sgO i ++ (Lib.decDigits (i.natAbs / 1000) ++ 46 :: frL (i.natAbs % 1000)) := by
  have hm : magn i = (i.natAbs : Int) := by unfold magn; split <;> omega
  have hs : L (signB i) = sgO i := by unfold signB sgO; split <;> rfl
  unfold decB
  rw [L_app, L_app, L_app, hs, hm, frac_L, itoa_L]
  have e : Int.tdiv (i.natAbs : Int) 1000 = ((i.natAbs / 1000 : Nat) : Int) := by rw [Int.tdiv_eq_ediv_of_nonneg (by omega)]; omega
  have : sgO (((i.natAbs / 1000 : Nat)) : Int) = [] := by unfold sgO; rw [if_neg (by omega)]
  rw [e, this, Int.natAbs_natCast]
  show (sgO i ++ ([] ++ Lib.decDigits (i.natAbs / 1000))) ++ [46] ++ frL (i.natAbs % 1000) = _
  simp
theorem zer_len (n : Nat) (h : n ≤ 3) : (zerL n).length = 3 - n := by unfold zerL; simp
theorem dec_back (i : Int) (h : -999999999999999 ≤ i ∧ i ≤ 999999999999999) : VT (L (decB i)) 2 i [] := by
  have hd := dec_all (i.natAbs / 1000)
  have hf := fr_at (i.natAbs % 1000) (by omega)
  have := VT.dec (sgO i) (Lib.decDigits (i.natAbs / 1000)) (frL (i.natAbs % 1000)) (sgO_or i) (dec_ne _) hd.1 (dec_len 11 _ (by omega)) hf.2.1 hf.1 hf.2.2.1
  have hn : numL (Lib.decDigits (i.natAbs / 1000) ++ (frL (i.natAbs % 1000) ++ zerL (frL (i.natAbs % 1000)).length)) = i.natAbs := by
    rw [numL_app, hd.2, hf.2.2.2, List.length_append, zer_len _ hf.2.2.1]
    rw [show (frL (i.natAbs % 1000)).length + (3 - (frL (i.natAbs % 1000)).length) = 3 by have := hf.2.2.1; omega]
    omega
  rw [hn, sgO_val] at this
  rw [dec_L]; exact this
/-! ### Texts in quotes -/
def esc (t : List UInt8) : List UInt8 := t.flatMap fun c => if c.toNat = 34 ∨ c.toNat = 92 then [92, c] else [c]
def Plain (t : List UInt8) : Prop := ∀ c ∈ t, 32 ≤ c.toNat ∧ c.toNat ≤ 126
theorem q_esc : ∀ t : List UInt8, Plain t → QT (esc t ++ [34]) t
  | [], _ => QT.stop
  | c :: t, h => by
    have ih := q_esc t (fun x hx => h x (List.mem_cons_of_mem _ hx))
    have hc := h c (List.mem_cons_self ..)
    unfold esc
    rw [List.flatMap_cons]
    by_cases k : c.toNat = 34 ∨ c.toNat = 92
    · rw [if_pos k]; exact QT.esc c _ t k ih
    · rw [if_neg k]; exact QT.plain c _ t hc.1 hc.2 (fun e => k (Or.inl e)) (fun e => k (Or.inr e)) ih
theorem q_plain {q t : List UInt8} (h : QT q t) : Plain t := by
  induction h with
  | stop => intro c hc; cases hc
  | plain c q t h1 h2 _ _ _ ih => intro x hx; rcases List.mem_cons.1 hx with rfl | hx; exact ⟨h1, h2⟩; exact ih x hx
  | esc c q t h1 _ ih => intro x hx; rcases List.mem_cons.1 hx with rfl | hx; omega; exact ih x hx
theorem esc_len (t : List UInt8) : (esc t).length ≤ 2 * t.length := by
  induction t with
  | nil => simp [esc]
  | cons c t ih =>
    have e : esc (c :: t) = (if c.toNat = 34 ∨ c.toNat = 92 then [92, c] else [c]) ++ esc t := by unfold esc; rw [List.flatMap_cons]
    rw [e, List.length_append, List.length_cons]
    have : (if c.toNat = 34 ∨ c.toNat = 92 then [92, c] else [c]).length ≤ 2 := by split <;> simp
    omega
theorem qt_len {q t : List UInt8} (h : QT q t) : t.length + 1 ≤ q.length := by
  induction h with
  | stop => simp
  | plain _ _ _ _ _ _ _ _ ih => simp; omega
  | esc _ _ _ _ _ ih => simp; omega
theorem bt_get (t : ByteArray) (k : Nat) (h : k < (L t).length) : bt t k = ((L t)[k].toNat : Int) := bt_list t k h
theorem take_snoc {α : Type} (l : List α) (k : Nat) (h : k < l.length) : l.take (k + 1) = l.take k ++ [l[k]] := by
  rw [List.take_add_one, List.getElem?_eq_getElem h]; rfl
theorem qOut_eq (t : ByteArray) : ∀ k : Nat, k ≤ (L t).length → Plain ((L t).take k) → qOut t k = some (B (34 :: esc ((L t).take k)))
  | 0, _, _ => by rw [qOut]; rfl
  | k + 1, hk, hp => by
    have hk' : k < (L t).length := by omega
    rw [take_snoc _ _ hk'] at hp
    have ih := qOut_eq t k (by omega) (fun c hc => hp c (List.mem_append.2 (Or.inl hc)))
    have hc := hp _ (List.mem_append.2 (Or.inr (List.mem_singleton.2 rfl)))
    rw [qOut, ih]
    simp only [Option.bind_some]
    rw [bt_get t k hk', if_neg (by omega), wiQ, take_snoc _ _ hk']
    congr 1
    apply L_inj
    rw [L_app, L_B]
    have e1 : L (strOfNums [((L t)[k].toNat : Int)]) = [(L t)[k]] := by
      have := num_app [] (L t)[k] [] rfl
      simpa using this
    have e2 : esc ((L t).take k ++ [(L t)[k]]) = esc ((L t).take k) ++ (if (L t)[k].toNat = 34 ∨ (L t)[k].toNat = 92 then [92, (L t)[k]] else [(L t)[k]]) := by
      unfold esc; rw [List.flatMap_append, List.flatMap_singleton]
    rw [e1, e2]
    by_cases z : (L t)[k].toNat = 34 ∨ (L t)[k].toNat = 92
    · rw [decide_eq_true z, if_pos rfl, if_pos z, L_app, L_B]
      show (34 :: esc ((L t).take k)) ++ [92] ++ [(L t)[k]] = _
      simp
    · rw [decide_eq_false z, if_neg (by decide), if_neg z, L_B]; simp
theorem qOut_bad (t : ByteArray) (j : Nat) (hj : j < (L t).length) (h : ¬ (32 ≤ (L t)[j].toNat ∧ (L t)[j].toNat ≤ 126)) : qOut t t.size = none := by
  refine qOut_none t (j + 1) ?_ t.size (by rw [size_L]; omega)
  rw [qOut, bt_get t j hj]
  cases qOut t j with
  | none => rfl
  | some o => rw [Option.bind_some, if_pos (by omega)]
theorem text_plain (t : ByteArray) (i : Int) (h : Plain (L t)) : textF i t = (B (34 :: (esc (L t) ++ [34])), i == 0) := by
  unfold textF
  rw [size_L, qOut_eq t _ (Nat.le_refl _) (by rw [List.take_length]; exact h), List.take_length]
  simp only []
  have : (B (34 :: esc (L t)) ++ (⟨#[34]⟩ : ByteArray)) = B (34 :: (esc (L t) ++ [34])) := by
    apply L_inj
    rw [L_app, L_B, L_B]
    rfl
  rw [this]
theorem text_bad (t : ByteArray) (i : Int) (h : ¬ Plain (L t)) : textF i t = (⟨#[]⟩, false) := by
  unfold textF
  have : ∃ j, ∃ hj : j < (L t).length, ¬ (32 ≤ (L t)[j].toNat ∧ (L t)[j].toNat ≤ 126) := by
    refine Classical.byContradiction fun k => h fun c hc => ?_
    obtain ⟨j, hj, rfl⟩ := List.mem_iff_getElem.1 hc
    exact Classical.byContradiction fun z => k ⟨j, hj, z⟩
  obtain ⟨j, hj, hb⟩ := this
  rw [qOut_bad t j hj hb]
/-! ### Bits -/
theorem and_odd (x : Nat) (h : x &&& 18446744073709551614 = 0) (hx : x < 18446744073709551616) : x < 2 := by
  have h1 : (x &&& 18446744073709551614) >>> 1 = 0 := by rw [h]; rfl
  rw [Nat.shiftRight_and_distrib] at h1
  have h2 : (18446744073709551614 : Nat) >>> 1 = 2 ^ 63 - 1 := by decide
  rw [h2, Nat.and_two_pow_sub_one_eq_mod, show x >>> 1 = x / 2 from rfl] at h1
  omega
theorem flag_of (i : Int) (h : -999999999999999 ≤ i ∧ i ≤ 999999999999999) (hb : (Go.bits .andNot .i64 i 1 == 0) = true) : i = 0 ∨ i = 1 := by
  have hb := beq_iff_eq.1 hb
  have e : Go.bits .andNot .i64 i 1 = IntKind.i64.wrap ((BitVec.ofInt 64 i &&& ~~~BitVec.ofInt 64 1).toNat : Int) := rfl
  rw [e] at hb
  have hx : (BitVec.ofInt 64 i).toNat = (i % 18446744073709551616).toNat := by rw [BitVec.toNat_ofInt]; rfl
  have hy : (~~~BitVec.ofInt 64 1).toNat = 18446744073709551614 := by decide
  rw [BitVec.toNat_and, hy, hx] at hb
  have hl : (i % 18446744073709551616).toNat < 18446744073709551616 := by omega
  have hz : (i % 18446744073709551616).toNat &&& 18446744073709551614 < 18446744073709551616 := Nat.lt_of_le_of_lt Nat.and_le_left hl
  have := and_odd _ ?_ hl
  · omega
  · generalize (i % 18446744073709551616).toNat &&& 18446744073709551614 = m at hb hz
    rw [IntKind.wrap_i64] at hb
    first | omega | (split at hb <;> omega)
end Go.Proofs.YtbbaokjkmcfceaaDoor.Pl
