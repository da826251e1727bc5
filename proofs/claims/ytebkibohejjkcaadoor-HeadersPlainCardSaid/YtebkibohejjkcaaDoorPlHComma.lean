/- Parts between commas, and plain splitting. -/
import Derived.Test.YtebkibohejjkcaaDoorPlHSplit
import Derived.Test.YtebkibohejjkcaaDoorPlHParts
namespace Go.Proofs.YtebkibohejjkcaaDoor.Pl
set_option linter.unusedVariables false
set_option linter.unusedSimpArgs false
open Go.RowKit Go.Proofs.YtebkibohejjkcaaDoor.Q Go.Proofs.YtebkibohejjkcaaDoorW.PrintWords Go.Proofs.YtebkibohejjkcaaDoorW.PrintLast

def isComma (c : UInt8) : Bool := ((c.toNat : Int) == 44)
def mkB (l : List UInt8) : ByteArray := ⟨l.toArray⟩
theorem mkB_dl (s : ByteArray) : mkB (dl s) = s := dl_inj (by unfold mkB dl; simp)
theorem cutOf_eq (v : ByteArray) : cutOf (fun x => x == 44) true v = (splitL isComma (dl v)).map mkB := by
  have h := parts_split (fun x => x == 44) v
  have h2 := congrArg (List.map mkB) h
  rw [List.map_map] at h2
  have e : (mkB ∘ dl) = id := funext mkB_dl
  rw [e, List.map_id] at h2
  exact h2
theorem com_at (v : ByteArray) : ∀ (d i : Nat) (o : Bool), v.size ≤ i + d → 0 ≤ com v i o → bt v (com v i o) = 44 := by
  intro d
  induction d with
  | zero => intro i o h h0; rw [com_end v i o (by omega)] at h0; omega
  | succ d ih =>
    intro i o h h0
    by_cases hlt : i < v.size
    · have hst := com_step v i o hlt
      rw [hst] at h0 ⊢
      split at h0
      · rename_i h1
        rw [if_pos h1]
        exact ih _ _ (by omega) h0
      · rename_i h1
        rw [if_neg h1]
        split at h0
        · rename_i h2
          rw [if_pos h2]
          exact ih _ _ (by omega) h0
        · rename_i h2
          rw [if_neg h2]
          split at h0
          · rename_i h3
            rw [if_pos h3]
            exact h3.1
          · rename_i h3
            rw [if_neg h3]
            exact ih _ _ (by omega) h0
    · rw [com_end v i o (by omega)] at h0; omega
theorem com_first (v : ByteArray) (hq : ∀ j : Nat, j < v.size → bt v j ≠ 34) : ∀ (d i : Nat), v.size ≤ i + d → ∀ j : Nat, i ≤ j → j < v.size → (com v i false = -1 ∨ (j : Int) < com v i false) → bt v j ≠ 44 := by
  intro d
  induction d with
  | zero => intro i h j hij hj _; omega
  | succ d ih =>
    intro i h j hij hj hc
    have hst := com_step v i false (by omega)
    rw [if_neg (hq i (by omega)), if_neg (by simp)] at hst
    by_cases h44 : bt v i = 44
    · rw [if_pos ⟨h44, rfl⟩] at hst
      rw [hst] at hc
      omega
    · rw [if_neg (fun e => h44 e.1)] at hst
      rcases Nat.eq_or_lt_of_le hij with rfl | hlt
      · exact h44
      · rw [hst] at hc
        exact ih (i + 1) (by omega) j (by omega) hj hc
theorem dl_extract (v : ByteArray) (a b : Nat) : dl (v.extract a b) = ((dl v).drop a).take (b - a) := by
  unfold dl
  simp only [ByteArray.data_extract, Array.toList_extract, List.extract_eq_take_drop]
theorem dl_parts (v : ByteArray) (c : Nat) (hc : c < v.size) (h44 : bt v (c : Int) = 44) : dl v = dl (v.extract 0 c) ++ (44 : UInt8) :: dl (v.extract (c + 1) v.size) := by
  rw [dl_extract, dl_extract, List.drop_zero, Nat.sub_zero]
  have hl : (dl v).length = v.size := dl_len v
  obtain ⟨x, hx, hbt⟩ := bt_dl v c hc
  have hx44 : x = 44 := by
    rw [h44] at hbt
    have : x.toNat = 44 := by omega
    exact UInt8.toNat_inj.1 this
  have hcl : c < (dl v).length := by omega
  have e1 : (dl v)[c] = 44 := by
    rw [List.getElem?_eq_getElem hcl] at hx
    rw [Option.some.inj hx, hx44]
  rw [List.take_of_length_le (l := (dl v).drop (c + 1)) (by rw [List.length_drop]; omega)]
  rw [← e1, ← List.drop_eq_getElem_cons hcl, List.take_append_drop]
theorem comma_is : isComma 44 = true := by decide
theorem cparts_len_split : ∀ (d : Nat) (v : ByteArray), v.size < d → (cparts v).length ≤ (splitL isComma (dl v)).length := by
  intro d
  induction d with
  | zero => intro v h; omega
  | succ d ih =>
    intro v h
    rw [cparts_eq]
    obtain ⟨h1, h2⟩ := com_range v 0 false
    split
    · rename_i hc
      have hc' : 0 ≤ com v 0 false := hc
      have h44 := com_at v v.size 0 false (by omega) hc'
      have e : ((com v 0 false).toNat : Int) = com v 0 false := by omega
      have hd := dl_parts v (com v 0 false).toNat (by omega) (by rw [e]; exact h44)
      rw [hd, splitL_glue isComma 44 comma_is, List.length_append, List.length_cons]
      have := ih (v.extract ((commaOf v).toNat + 1) v.size) (by simp only [ByteArray.size_extract]; omega)
      have hne := splitL_ne isComma (dl (v.extract 0 (com v 0 false).toNat))
      have hpos : 0 < (splitL isComma (dl (v.extract 0 (com v 0 false).toNat))).length := List.length_pos_iff.2 hne
      show (cparts (v.extract ((com v 0 false).toNat + 1) v.size)).length + 1 ≤ _
      have e2 : commaOf v = com v 0 false := rfl
      rw [e2] at this
      omega
    · have hne := splitL_ne isComma (dl v)
      have hpos : 0 < (splitL isComma (dl v)).length := List.length_pos_iff.2 hne
      simp only [List.length_cons, List.length_nil]
      omega
theorem bt_extract2 (v : ByteArray) (a b j : Nat) (hb : b ≤ v.size) (hj : a + j < b) : bt (v.extract a b) (j : Int) = bt v ((a + j : Nat) : Int) := by
  rw [bt_nat, bt_nat]
  congr 1
  have h1 := dl_extract v a b
  unfold dl at h1
  rw [h1, List.getD_eq_getElem?_getD, List.getD_eq_getElem?_getD, List.getElem?_take_of_lt (by omega), List.getElem?_drop]
theorem no_comma (v : ByteArray) (h : ∀ j : Nat, j < v.size → bt v j ≠ 44) : splitL isComma (dl v) = [dl v] := by
  refine splitL_none isComma _ fun c hc => ?_
  obtain ⟨j, hj, e⟩ := List.getElem_of_mem hc
  rw [dl_len] at hj
  obtain ⟨x, hx, hbt⟩ := bt_dl v j hj
  rw [List.getElem?_eq_getElem (by rw [dl_len]; exact hj)] at hx
  have : x = c := (Option.some.inj hx).symm.trans e
  subst this
  have := h j hj
  rw [hbt] at this
  unfold isComma
  simpa using this
theorem cparts_plain : ∀ (d : Nat) (v : ByteArray), v.size < d → (∀ j : Nat, j < v.size → bt v j ≠ 34) → cparts v = ((splitL isComma (dl v)).map mkB).map trimBA := by
  intro d
  induction d with
  | zero => intro v h; omega
  | succ d ih =>
    intro v h hq
    rw [cparts_eq]
    obtain ⟨h1, h2⟩ := com_range v 0 false
    have hf := com_first v hq v.size 0 (by omega)
    have e2 : commaOf v = com v 0 false := rfl
    rw [e2]
    split
    · rename_i hc
      have h44 := com_at v v.size 0 false (by omega) hc
      have e : ((com v 0 false).toNat : Int) = com v 0 false := by omega
      generalize hcn : (com v 0 false).toNat = c at *
      have hd := dl_parts v c (by omega) (by rw [e]; exact h44)
      rw [hd, splitL_glue isComma 44 comma_is]
      have hz : (v.extract 0 c).size = c := by simp only [ByteArray.size_extract]; omega
      rw [no_comma (v.extract 0 c) (fun j hj => by
        rw [bt_extract2 v 0 c j (by omega) (by omega), Nat.zero_add]
        exact hf j (by omega) (by omega) (by omega))]
      have hz2 : (v.extract (c + 1) v.size).size = v.size - (c + 1) := by simp only [ByteArray.size_extract]; omega
      rw [ih (v.extract (c + 1) v.size) (by omega) (fun j hj => by
        rw [bt_extract2 v (c + 1) v.size j (by omega) (by omega)]
        exact hq _ (by omega))]
      simp only [List.singleton_append, List.map_cons, mkB_dl]
    · rename_i hc
      rw [no_comma v (fun j hj => hf j (by omega) hj (.inl (by omega)))]
      simp only [List.map_cons, List.map_nil, mkB_dl]
end Go.Proofs.YtebkibohejjkcaaDoor.Pl
