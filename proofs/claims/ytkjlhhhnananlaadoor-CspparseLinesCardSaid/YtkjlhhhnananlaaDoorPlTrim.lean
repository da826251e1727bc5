/- The document's own trimming, and words, parts, texts, come to what the program's functions give. -/
import Derived.Test.YtkjlhhhnananlaaDoorPlEv
import Derived.Test.YtkjlhhhnananlaaDoorQx0
import Derived.Test.YtkjlhhhnananlaaDoorQx1
import Derived.Test.YtkjlhhhnananlaaDoorQx2
import Derived.Test.YtkjlhhhnananlaaDoorQx3
import Derived.Test.YtkjlhhhnananlaaDoorQx4
import Derived.Test.YtkjlhhhnananlaaDoorQx5
namespace Go.Proofs.YtkjlhhhnananlaaDoor.Pl
set_option linter.unusedVariables false
set_option linter.unusedSimpArgs false
open Go.RowKit Go.Proofs.YtkjlhhhnananlaaDoor.Q Go.Proofs.YtkjlhhhnananlaaDoorW.PrintWords Go.Proofs.YtkjlhhhnananlaaDoorW.PrintLast

def blk (c : Int) : Bool := c == 9 || c == 10 || c == 12 || c == 13 || c == 32
theorem blank_f (c : Int) : glacisref01_Blank.f c = some (blk c) := by
  unfold glacisref01_Blank.f blk
  by_cases h1 : c = 9
  · subst h1; rfl
  by_cases h2 : c = 10
  · subst h2; rfl
  by_cases h3 : c = 12
  · subst h3; rfl
  by_cases h4 : c = 13
  · subst h4; rfl
  simp [h1, h2, h3, h4]
theorem at_bt (s : ByteArray) (i : Nat) (h : i < s.size) : s.data.toList[i]? = some (UInt8.ofNat (bt s i).toNat) := by
  have hl : i < s.data.toList.length := by rw [data_length]; exact h
  rw [List.getElem?_eq_getElem hl]
  congr 1
  rw [bt_nat, List.getD_eq_getElem?_getD, List.getElem?_eq_getElem hl]
  simp
theorem set_blk : ∀ n : Nat, n < 256 → ([9, 10, 12, 13, 32] : List UInt8).contains (UInt8.ofNat n) = blk (n : Int) := by decide +kernel
theorem set_bt (s : ByteArray) (i : Nat) (h : i < s.size) (b : UInt8) (hb : s.data.toList[i]? = some b) : ([9, 10, 12, 13, 32] : List UInt8).contains b = blk (bt s i) := by
  rw [at_bt s i h] at hb
  obtain rfl := Option.some.inj hb
  obtain ⟨h0, h1⟩ := bt_range s i
  rw [set_blk _ (by omega)]
  congr 1
  omega
/-- Where trimming ends: the first and last bytes that are no blanks. -/
theorem trim_at (s : ByteArray) (a b : Nat) (hab : a ≤ b) (hb : b ≤ s.size) (h1 : ∀ j, j < a → blk (bt s j) = true) (h2 : ∀ j, b ≤ j → j < s.size → blk (bt s j) = true)
    (h3 : a < b → blk (bt s a) = false) (h4 : a < b → blk (bt s ((b - 1 : Nat) : Int)) = false) : s.extract a b = trimBA s := by
  have hl : s.data.toList.length = s.size := data_length s
  rw [Lib.extract_eq]
  unfold trimBA Lib.trimS
  congr 2
  rcases Nat.lt_or_ge a b with h | h
  · rw [Lib.trimRightS_take s.data.toList _ b (by omega) (fun j x hj hx => ?_) (fun x h0 hx => ?_)]
    · rw [Lib.trimLeftS_drop _ _ a (by rw [List.length_take]; omega) (fun j x hj hx => ?_) (fun x hx => ?_)]
      · rw [List.drop_take]
      · rw [List.getElem?_take_of_lt (by omega)] at hx
        rw [set_bt s j (by omega) x hx]; exact h1 j hj
      · rw [List.getElem?_take_of_lt (by omega)] at hx
        rw [set_bt s a (by omega) x hx]; exact h3 h
    · have hjs : j < s.size := by
        rcases Nat.lt_or_ge j s.size with h' | h'
        · exact h'
        · rw [List.getElem?_eq_none (by omega)] at hx; cases hx
      rw [set_bt s j hjs x hx]; exact h2 j hj hjs
    · rw [set_bt s (b - 1) (by omega) x hx]; exact h4 h
  · have hall : ∀ j, j < s.size → blk (bt s j) = true := fun j hj => by
      rcases Nat.lt_or_ge j a with h' | h'
      · exact h1 j h'
      · exact h2 j (by omega) hj
    rw [Lib.trimRightS_take s.data.toList _ 0 (by omega) (fun j x hj hx => ?_) (fun x h0 hx => by omega)]
    · rw [show b - a = 0 by omega]
      simp [Lib.trimLeftS]
    · have hjs : j < s.size := by
        rcases Nat.lt_or_ge j s.size with h' | h'
        · exact h'
        · rw [List.getElem?_eq_none (by omega)] at hx; cases hx
      rw [set_bt s j hjs x hx]; exact hall j hjs
theorem ref_trim_l1 (s : ByteArray) (hs : s.size ≤ 281474976710656) : ∀ (d a b : Nat), b - a = d → a ≤ b → b ≤ s.size → (∀ j : Nat, j < a → blk (bt s j) = true) → (∀ j : Nat, b ≤ j → j < s.size → blk (bt s j) = true) →
    (a < s.size → blk (bt s a) = false) → Evn (fun k => glacisref01_Trim.l1 k s a b) (trimBA s) := by
  intro d
  induction d with
  | zero =>
    intro a b hd hab hb h1 h2 h3
    refine Evn.succ ?_
    simp only [glacisref01_Trim.l1]
    refine Evn.iff_neg (by omega) (Evn.iff_pos (by omega) (Evn.iff_pos (by omega) (Evn.iff_pos (by omega) (Evn.ret ?_))))
    congr 1
    exact trim_at s a b hab hb h1 h2 (fun h => by omega) (fun h => by omega)
  | succ d ih =>
    intro a b hd hab hb h1 h2 h3
    refine Evn.succ ?_
    simp only [glacisref01_Trim.l1]
    have e : wrap64 ((b : Int) - 1) = ((b - 1 : Nat) : Int) := by rw [wr64 (by omega) (by omega)]; omega
    rw [e]
    refine Evn.iff_pos (by omega) (Evn.iff_pos (by omega) (Evn.iff_pos (by omega) (Evn.bind (Evn.ret (blank_f _)) ?_)))
    by_cases hbk : blk (bt s ((b - 1 : Nat) : Int)) = true
    · rw [hbk]
      refine Evn.iff_pos rfl (ih a (b - 1) (by omega) (by omega) (by omega) h1 (fun j hj hjs => ?_) h3)
      rcases Nat.lt_or_ge j b with h | h
      · rw [show j = b - 1 by omega]; exact hbk
      · exact h2 j h hjs
    · refine Evn.iff_neg hbk (Evn.iff_pos (by omega) (Evn.iff_pos (by omega) (Evn.iff_pos (by omega) (Evn.ret ?_))))
      congr 1
      exact trim_at s a b hab hb h1 h2 (fun h => h3 (by omega)) (fun _ => by simpa using hbk)
theorem ref_trim_l0 (s : ByteArray) (hs : s.size ≤ 281474976710656) : ∀ (d a : Nat), s.size - a = d → a ≤ s.size → (∀ j : Nat, j < a → blk (bt s j) = true) →
    Evn (fun k => glacisref01_Trim.l0 k s a s.size) (trimBA s) := by
  have fin : ∀ a : Nat, a ≤ s.size → (∀ j : Nat, j < a → blk (bt s j) = true) → (a < s.size → blk (bt s a) = false) → Evn (fun k => glacisref01_Trim.j1 k s a s.size) (trimBA s) := by
    intro a ha h1 h3
    refine Evn.succ ?_
    simp only [glacisref01_Trim.j1]
    exact ref_trim_l1 s hs _ a s.size rfl ha (Nat.le_refl _) h1 (fun j h h' => by omega) h3
  intro d
  induction d with
  | zero =>
    intro a hd ha h1
    refine Evn.succ ?_
    simp only [glacisref01_Trim.l0]
    exact Evn.iff_neg (by omega) (fin a ha h1 (fun h => by omega))
  | succ d ih =>
    intro a hd ha h1
    refine Evn.succ ?_
    simp only [glacisref01_Trim.l0]
    refine Evn.iff_pos (by omega) (Evn.iff_pos (by omega) (Evn.iff_pos (by omega) (Evn.bind (Evn.ret (blank_f _)) ?_)))
    by_cases hbk : blk (bt s (a : Int)) = true
    · rw [hbk]
      refine Evn.iff_pos rfl ?_
      rw [wr64 (by omega) (by omega)]
      refine ih (a + 1) (by omega) (by omega) (fun j hj => ?_)
      rcases Nat.lt_or_ge j a with h | h
      · exact h1 j h
      · rw [show j = a by omega]; exact hbk
    · exact Evn.iff_neg hbk (fin a ha h1 (fun _ => by simpa using hbk))
theorem ref_trim (s : ByteArray) (hs : s.size ≤ 281474976710656) : Evn (fun k => glacisref01_Trim.f k s) (trimBA s) := by
  unfold glacisref01_Trim.f
  exact ref_trim_l0 s hs _ 0 rfl (Nat.zero_le _) (fun j h => by omega)
end Go.Proofs.YtkjlhhhnananlaaDoor.Pl
