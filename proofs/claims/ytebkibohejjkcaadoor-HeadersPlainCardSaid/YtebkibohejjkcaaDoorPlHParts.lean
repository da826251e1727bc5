/- The parts of a value, between commas outside quotes. -/
import Derived.Test.YtebkibohejjkcaaDoorPlHdr
namespace Go.Proofs.YtebkibohejjkcaaDoor.Pl
set_option linter.unusedVariables false
set_option linter.unusedSimpArgs false
open Go.RowKit Go.Proofs.YtebkibohejjkcaaDoor.Q Go.Proofs.YtebkibohejjkcaaDoorW.PrintWords Go.Proofs.YtebkibohejjkcaaDoorW.PrintLast

theorem comF_fuel (s : ByteArray) : ∀ (d e i : Nat) (o : Bool), s.size ≤ i + d → s.size ≤ i + e → comF s d i o = comF s e i o := by
  intro d
  induction d with
  | zero =>
    intro e i o h _
    cases e with
    | zero => rfl
    | succ e =>
      unfold comF
      rw [if_neg (by omega)]
  | succ d ih =>
    intro e i o h he
    cases e with
    | zero =>
      unfold comF
      rw [if_neg (by omega)]
    | succ e =>
      unfold comF
      rw [ih e (i + 1) (!o) (by omega) (by omega), ih e (i + 2) o (by omega) (by omega), ih e (i + 1) o (by omega) (by omega)]
def com (s : ByteArray) (i : Nat) (o : Bool) : Int := comF s (s.size + 2) i o
theorem com_end (s : ByteArray) (i : Nat) (o : Bool) (h : s.size ≤ i) : com s i o = -1 := by
  unfold com comF
  rw [if_neg (by omega)]
theorem com_step (s : ByteArray) (i : Nat) (o : Bool) (h : i < s.size) : com s i o = if bt s i = 34 then com s (i + 1) (!o) else if bt s i = 92 ∧ o = true then com s (i + 2) o else if bt s i = 44 ∧ o = false then (i : Int) else com s (i + 1) o := by
  unfold com
  rw [show s.size + 2 = (s.size + 1) + 1 from rfl, comF]
  rw [if_pos h, comF_fuel s (s.size + 1) (s.size + 1 + 1) (i + 1) (!o) (by omega) (by omega), comF_fuel s (s.size + 1) (s.size + 1 + 1) (i + 2) o (by omega) (by omega), comF_fuel s (s.size + 1) (s.size + 1 + 1) (i + 1) o (by omega) (by omega)]
theorem com_ge (s : ByteArray) : ∀ (d i : Nat) (o : Bool), s.size ≤ i + d → com s i o = -1 ∨ (i : Int) ≤ com s i o := by
  intro d
  induction d with
  | zero => intro i o h; exact .inl (com_end s i o (by omega))
  | succ d ih =>
    intro i o h
    by_cases hlt : i < s.size
    · rw [com_step s i o hlt]
      have h1 := ih (i + 1) (!o) (by omega)
      have h2 := ih (i + 2) o (by omega)
      have h3 := ih (i + 1) o (by omega)
      split
      · omega
      split
      · omega
      split
      · omega
      · omega
    · exact .inl (com_end s i o (by omega))
theorem com_range (s : ByteArray) (i : Nat) (o : Bool) : -1 ≤ com s i o ∧ (com s i o < s.size ∨ com s i o = -1) := comF_range s _ i o
theorem bt_extract (s : ByteArray) (a i : Nat) (h : a + i < s.size) : bt (s.extract a s.size) i = bt s ((a + i : Nat) : Int) := by
  rw [bt_nat, bt_nat]
  congr 1
  simp only [ByteArray.data_extract, Array.toList_extract]
  rw [List.getD_eq_getElem?_getD, List.getD_eq_getElem?_getD]
  have hl : s.data.toList.length = s.size := data_length s
  simp only [List.extract_eq_take_drop]
  rw [List.getElem?_take_of_lt (by omega), List.getElem?_drop]
theorem com_shift (s : ByteArray) (a : Nat) (ha : a ≤ s.size) : ∀ (d i : Nat) (o : Bool), s.size ≤ a + i + d → com (s.extract a s.size) i o = if 0 ≤ com s (a + i) o then com s (a + i) o - a else -1 := by
  have hsz : (s.extract a s.size).size = s.size - a := by rw [ByteArray.size_extract]; omega
  intro d
  induction d with
  | zero =>
    intro i o h
    rw [com_end _ _ _ (by omega), com_end _ _ _ (by omega)]
    rfl
  | succ d ih =>
    intro i o h
    by_cases hlt : a + i < s.size
    · rw [com_step _ i o (by omega), com_step s (a + i) o hlt, bt_extract s a i hlt]
      have h1 := ih (i + 1) (!o) (by omega)
      have h2 := ih (i + 2) o (by omega)
      have h3 := ih (i + 1) o (by omega)
      rw [show a + (i + 1) = a + i + 1 by omega] at h1 h3
      rw [show a + (i + 2) = a + i + 2 by omega] at h2
      generalize bt s ((a + i : Nat) : Int) = c at *
      by_cases c1 : c = 34
      · rw [if_pos c1, if_pos c1]; exact h1
      rw [if_neg c1, if_neg c1]
      by_cases c2 : c = 92 ∧ o = true
      · rw [if_pos c2, if_pos c2]; exact h2
      rw [if_neg c2, if_neg c2]
      by_cases c3 : c = 44 ∧ o = false
      · rw [if_pos c3, if_pos c3, if_pos (by omega)]
        omega
      rw [if_neg c3, if_neg c3]
      exact h3
    · rw [com_end _ _ _ (by omega), com_end _ _ _ (by omega)]
      rfl
theorem extract_extract0 (s : ByteArray) (a c : Nat) (ha : a + c ≤ s.size) : (s.extract a s.size).extract 0 c = s.extract a (a + c) := by
  apply ByteArray.ext
  apply Array.toList_inj.1
  simp only [ByteArray.data_extract, Array.toList_extract, List.extract_eq_take_drop]
  have hl : s.data.toList.length = s.size := data_length s
  rw [List.drop_zero, List.take_take]
  congr 1
  omega
theorem extract_extract1 (s : ByteArray) (a c : Nat) (ha : a + c ≤ s.size) : (s.extract a s.size).extract c (s.extract a s.size).size = s.extract (a + c) s.size := by
  apply ByteArray.ext
  apply Array.toList_inj.1
  simp only [ByteArray.data_extract, Array.toList_extract, List.extract_eq_take_drop, ByteArray.size_extract]
  have hl : s.data.toList.length = s.size := data_length s
  rw [List.drop_take, List.take_take, List.drop_drop]
  congr 1
  omega
/-- What is left from byte i on, of the part that began at byte a. -/
def restOf (s : ByteArray) (i : Nat) (o : Bool) (a : Nat) : List ByteArray := if 0 ≤ com s i o then trimBA (s.extract a (com s i o).toNat) :: cparts (s.extract ((com s i o).toNat + 1) s.size) else [trimBA (s.extract a s.size)]
theorem restOf_new (s : ByteArray) (a : Nat) (ha : a ≤ s.size) : restOf s a false a = cparts (s.extract a s.size) := by
  rw [cparts_eq]
  have hc : commaOf (s.extract a s.size) = com (s.extract a s.size) 0 false := rfl
  rw [hc, com_shift s a ha s.size 0 false (by omega), Nat.add_zero]
  unfold restOf
  obtain ⟨h1, h2⟩ := com_range s a false
  by_cases h : 0 ≤ com s a false
  · have hge : (a : Int) ≤ com s a false := by
      rcases com_ge s s.size a false (by omega) with h4 | h4
      · omega
      · exact h4
    rw [if_pos h, if_pos h, if_pos (by omega)]
    generalize com s a false = c at *
    rw [extract_extract0 s a _ (by omega), extract_extract1 s a _ (by omega)]
    rw [show a + (c - (a : Int)).toNat = c.toNat by omega, show a + ((c - (a : Int)).toNat + 1) = c.toNat + 1 by omega]
  · rw [if_neg h, if_neg h, if_neg (by omega)]
theorem parts_f {l : List S24} {n m : Nat} (h : Small l n m) (hn : n ≤ 1000) (hm : m ≤ 1000000) (name : ByteArray) (hz : name.size ≤ 281474976710656) : headers_Parts.f l name = some (partsOf l name) :=
  if_pos ⟨hdrsB_small h (by omega) (by omega) name hz, hdrsC_small h (by
    have := Nat.mul_le_mul (show m + 1 ≤ 1000001 by omega) hn
    omega)⟩
theorem cparts_mem : ∀ (d : Nat) (v : ByteArray), v.size < d → ∀ p ∈ cparts v, p.size ≤ v.size := by
  intro d
  induction d with
  | zero => intro v h; omega
  | succ d ih =>
    intro v h p hp
    rw [cparts_eq] at hp
    obtain ⟨h1, h2⟩ := com_range v 0 false
    split at hp
    · rename_i hc
      have hc' : 0 ≤ com v 0 false := hc
      rcases List.mem_cons.1 hp with rfl | hp
      · exact Nat.le_trans (trim_size _) (by simp only [ByteArray.size_extract]; omega)
      · have hz : (v.extract ((commaOf v).toNat + 1) v.size).size < d := by
          simp only [ByteArray.size_extract]
          omega
        exact Nat.le_trans (ih _ hz p hp) (by simp only [ByteArray.size_extract]; omega)
    · rw [List.mem_singleton] at hp
      subst hp
      exact trim_size _
theorem partsOf_small {l : List S24} {n m : Nat} (h : Small l n m) (name p : ByteArray) (hp : p ∈ partsOf l name) : p.size ≤ m := by
  unfold partsOf at hp
  obtain ⟨v, hv, hp⟩ := List.mem_flatMap.1 hp
  exact Nat.le_trans (cparts_mem _ v (Nat.lt_succ_self _) p hp) (vals_small h name v hv)
theorem partsOf_len {l : List S24} {n m : Nat} (h : Small l n m) (name : ByteArray) : (partsOf l name).length ≤ n * (m + 1) := by
  have h1 := cparts_sum (m + 1) (valsOf l name) (fun y hy => by have := vals_small h name y hy; omega)
  have h2 := valsOf_len l name
  exact Nat.le_trans h1 (Nat.mul_le_mul_right _ (Nat.le_trans h2 h.1))
end Go.Proofs.YtebkibohejjkcaaDoor.Pl
