/- Making small goes with trimming and parting. -/
import Derived.Test.YtbhokhidlgkakaaDoorPlLaw09
namespace Go.Proofs.YtbhokhidlgkakaaDoor.Pl
set_option linter.unusedVariables false
set_option linter.unusedSimpArgs false
open Go.RowKit Go.Proofs.YtbhokhidlgkakaaDoor.Q Go.Proofs.YtbhokhidlgkakaaDoorW.PrintWords Go.Proofs.YtbhokhidlgkakaaDoorW.PrintLast

def dl (s : ByteArray) : List UInt8 := s.data.toList
theorem dl_inj {s t : ByteArray} (h : dl s = dl t) : s = t := ByteArray.ext (Array.toList_inj.1 h)
theorem dl_len (s : ByteArray) : (dl s).length = s.size := data_length s
def lowU (b : UInt8) : UInt8 := UInt8.ofNat (lowByte b.toNat).toNat
theorem low_dl (s : ByteArray) : dl (lowBA s) = (dl s).map lowU := by
  unfold dl lowBA
  rw [strOfNums_data]
  unfold bytesOf
  rw [List.map_map, List.map_map]
  rfl
theorem lowU_nat : ∀ n : Nat, n < 256 → lowU (lowU (UInt8.ofNat n)) = lowU (UInt8.ofNat n) := by decide +kernel
theorem lowU_twice (b : UInt8) : lowU (lowU b) = lowU b := by
  have := lowU_nat b.toNat b.toNat_lt
  simpa using this
theorem low_twice (s : ByteArray) : lowBA (lowBA s) = lowBA s := by
  refine dl_inj ?_
  rw [low_dl, low_dl, List.map_map]
  congr 1
  funext b
  exact lowU_twice b
theorem foldEq_low (n name : ByteArray) : foldEq (lowBA n) name = foldEq n name := by
  rw [Bool.eq_iff_iff, foldEq_iff, foldEq_iff, low_twice]
def isBlank (b : UInt8) : Bool := ([9, 10, 12, 13, 32] : List UInt8).contains b
theorem blank_low : ∀ n : Nat, n < 256 → isBlank (lowU (UInt8.ofNat n)) = isBlank (UInt8.ofNat n) := by decide +kernel
theorem blank_lowU (b : UInt8) : isBlank (lowU b) = isBlank b := by
  have := blank_low b.toNat b.toNat_lt
  simpa using this
theorem trim_dl (s : ByteArray) : dl (trimBA s) = ((dl s).reverse.dropWhile isBlank).reverse.dropWhile isBlank := rfl
theorem dropWhile_map (l : List UInt8) : (l.map lowU).dropWhile isBlank = (l.dropWhile isBlank).map lowU := by
  induction l with
  | nil => rfl
  | cons b l ih =>
    rw [List.map_cons, List.dropWhile_cons, List.dropWhile_cons, blank_lowU]
    split
    · exact ih
    · rfl
theorem trim_low (s : ByteArray) : trimBA (lowBA s) = lowBA (trimBA s) := by
  refine dl_inj ?_
  rw [trim_dl, low_dl, low_dl, trim_dl, ← List.map_reverse, dropWhile_map, ← List.map_reverse, dropWhile_map]
theorem extract_low (s : ByteArray) (a b : Nat) : (lowBA s).extract a b = lowBA (s.extract a b) := by
  refine dl_inj ?_
  rw [low_dl]
  have h := low_dl s
  unfold dl at *
  simp only [ByteArray.data_extract, Array.toList_extract, List.extract_eq_take_drop]
  rw [h, List.map_take, List.map_drop]
theorem low_byte : ∀ n : Nat, n < 256 → (((lowU (UInt8.ofNat n)).toNat : Int) = 34 ↔ (n : Int) = 34) ∧ (((lowU (UInt8.ofNat n)).toNat : Int) = 92 ↔ (n : Int) = 92) ∧ (((lowU (UInt8.ofNat n)).toNat : Int) = 44 ↔ (n : Int) = 44) := by decide +kernel
theorem bt_low (s : ByteArray) (i : Nat) (h : i < s.size) : (bt (lowBA s) i = 34 ↔ bt s i = 34) ∧ (bt (lowBA s) i = 92 ↔ bt s i = 92) ∧ (bt (lowBA s) i = 44 ↔ bt s i = 44) := by
  have hd := low_dl s
  unfold dl at hd
  have hl : i < s.data.toList.length := by rw [data_length]; exact h
  have e1 : bt (lowBA s) i = ((lowU s.data.toList[i]).toNat : Int) := by
    rw [bt_nat, hd, List.getD_eq_getElem?_getD, List.getElem?_map, List.getElem?_eq_getElem hl]
    rfl
  have e2 : bt s i = ((s.data.toList[i]).toNat : Int) := by
    rw [bt_nat, List.getD_eq_getElem?_getD, List.getElem?_eq_getElem hl]
    rfl
  rw [e1, e2]
  have := low_byte (s.data.toList[i]).toNat (s.data.toList[i]).toNat_lt
  simpa using this
theorem com_low (s : ByteArray) : ∀ (d i : Nat) (o : Bool), s.size ≤ i + d → com (lowBA s) i o = com s i o := by
  intro d
  induction d with
  | zero => intro i o h; rw [com_end _ _ _ (by rw [low_sz]; omega), com_end _ _ _ (by omega)]
  | succ d ih =>
    intro i o h
    by_cases hlt : i < s.size
    · rw [com_step _ i o (by rw [low_sz]; exact hlt), com_step s i o hlt, ih (i + 1) (!o) (by omega), ih (i + 2) o (by omega), ih (i + 1) o (by omega)]
      obtain ⟨e1, e2, e3⟩ := bt_low s i hlt
      simp only [e1, e2, e3]
    · rw [com_end _ _ _ (by rw [low_sz]; omega), com_end _ _ _ (by omega)]
theorem commaOf_low (s : ByteArray) : commaOf (lowBA s) = commaOf s := com_low s s.size 0 false (by omega)
theorem cparts_low : ∀ (d : Nat) (v : ByteArray), v.size < d → cparts (lowBA v) = (cparts v).map lowBA := by
  intro d
  induction d with
  | zero => intro v h; omega
  | succ d ih =>
    intro v h
    rw [cparts_eq, cparts_eq v, commaOf_low]
    obtain ⟨h1, h2⟩ := com_range v 0 false
    split
    · rename_i hc
      have hc' : 0 ≤ com v 0 false := hc
      rw [extract_low, trim_low, low_sz, extract_low, ih _ (by simp only [ByteArray.size_extract]; omega)]
      rfl
    · rw [trim_low]
      rfl
/-- The words of a value do not turn with its letters' size. -/
theorem words_low (v : ByteArray) : (cparts (trimBA (lowBA v))).map lowBA = (cparts (trimBA v)).map lowBA := by
  rw [trim_low, cparts_low _ _ (Nat.lt_succ_self _), List.map_map]
  congr 1
  funext p
  exact low_twice p
theorem valsOf_append (l l' : List S28) (name : ByteArray) : valsOf (l ++ l') name = valsOf l name ++ valsOf l' name := by
  unfold valsOf
  rw [List.filter_append, List.map_append]
theorem partsOf_append (l l' : List S28) (name : ByteArray) : partsOf (l ++ l') name = partsOf l name ++ partsOf l' name := by
  unfold partsOf
  rw [valsOf_append, List.flatMap_append]
def xfoH (v : ByteArray) : S28 := ⟨⟨#[88, 45, 70, 114, 97, 109, 101, 45, 79, 112, 116, 105, 111, 110, 115]⟩, v⟩
theorem xfo_row (v : ByteArray) : glacislaw09_xfo.f v = some ((xfoH v).f0, (xfoH v).f1) := rfl
theorem xfoH_name (v : ByteArray) : foldEq (xfoH v).f0 xfoName = true := by
  show foldEq ⟨#[88, 45, 70, 114, 97, 109, 101, 45, 79, 112, 116, 105, 111, 110, 115]⟩ xfoName = true
  kernel_rfl
theorem valsOf_xfo (l : List ByteArray) : valsOf (l.map xfoH) xfoName = l.map trimBA := by
  induction l with
  | nil => rfl
  | cons v l ih =>
    have e : valsOf ((v :: l).map xfoH) xfoName = valsOf [xfoH v] xfoName ++ valsOf (l.map xfoH) xfoName := valsOf_append [xfoH v] _ _
    rw [e, ih]
    unfold valsOf
    simp only [List.filter_cons, List.filter_nil, xfoH_name, if_true]
    rfl
theorem partsOf_xfo (l : List ByteArray) : partsOf (l.map xfoH) xfoName = l.flatMap (fun v => cparts (trimBA v)) := by
  unfold partsOf
  rw [valsOf_xfo, List.flatMap_map]
end Go.Proofs.YtbhokhidlgkakaaDoor.Pl
