/- A number that is told has the digits that it was told by: over the printed functions. -/
import Derived.Test.YtdcnofkcaddkpaaDoorPlLaw01
import Derived.Test.YtdcnofkcaddkpaaDoorPlNumber
namespace Go.Proofs.YtdcnofkcaddkpaaDoor.Pure
set_option linter.unusedVariables false
set_option linter.unusedSimpArgs false
open Go.RowKit Go.Proofs.YtdcnofkcaddkpaaDoor.Q Go.Proofs.YtdcnofkcaddkpaaDoor.Pl Go.Proofs.YtdcnofkcaddkpaaDoorW.PrintWords Go.Proofs.YtdcnofkcaddkpaaDoorW.PrintLast
/-- The number of the first i bytes. -/
def valTo (s : ByteArray) : Nat → Int
  | 0 => 0
  | i + 1 => 10 * valTo s i + (bt s i - 48)
theorem numFrom_true (s : ByteArray) (most m : Int) : ∀ (d i : Nat), numFrom s most d i (valTo s i) = (m, true) →
    m = valTo s (i + d) ∧ ∀ j, i ≤ j → j < i + d → 0 ≤ bt s j - 48 ∧ bt s j - 48 ≤ 9 ∧ valTo s (j + 1) ≤ most := by
  intro d
  induction d with
  | zero =>
    intro i h
    simp only [numFrom, Prod.mk.injEq] at h
    exact ⟨h.1.symm, fun j h1 h2 => by omega⟩
  | succ d ih =>
    intro i h
    unfold numFrom at h
    split at h
    · simp at h
    · rename_i hc
      obtain ⟨h1, h2⟩ := ih (i + 1) h
      refine ⟨by rw [h1]; congr 1; omega, fun j hj hj2 => ?_⟩
      by_cases e : j = i
      · subst e
        refine ⟨by omega, by omega, ?_⟩
        show 10 * valTo s j + (bt s j - 48) ≤ most
        omega
      · exact h2 j (by omega) (by omega)
theorem valTo_pos (s : ByteArray) (n : Nat) (hd : ∀ j : Nat, j < n → 0 ≤ bt s j - 48 ∧ bt s j - 48 ≤ 9) (h0 : 0 < n → 1 ≤ bt s (0 : Nat) - 48) : ∀ i, i < n → (10 : Int) ^ i ≤ valTo s (i + 1) := by
  intro i
  induction i with
  | zero => intro h; have := h0 h; simp only [valTo]; simpa using this
  | succ i ih =>
    intro h
    have h1 := ih (by omega)
    have h2 := hd (i + 1) h
    show (10 : Int) ^ (i + 1) ≤ 10 * valTo s (i + 1) + (bt s ((i + 1 : Nat) : Int) - 48)
    rw [Int.pow_succ]
    omega
theorem digits_l0 (s : ByteArray) (n : Nat) (hn : s.size = n) (hs : n ≤ 19) (hd : ∀ j : Nat, j < n → 0 ≤ bt s j - 48 ∧ bt s j - 48 ≤ 9) (hv : ∀ j : Nat, j ≤ n → valTo s j ≤ 9223372036854775807 ∧ (0 < j → 0 < valTo s j)) :
    ∀ (i : Nat) (acc : ByteArray), i ≤ n → dl acc = (dl s).drop i → Evn (fun k => glacislaw01_OctetDigits.l0 k s true (valTo s i) acc) true := by
  intro i
  induction i with
  | zero =>
    intro acc hi hacc
    have e : acc = s := dl_inj (by simpa using hacc)
    subst e
    refine Evn.succ ?_
    simp only [glacislaw01_OctetDigits.l0, valTo]
    exact Evn.iff_neg (by omega) (Evn.iff_pos (by simp) (Evn.ret (by simp)))
  | succ i ih =>
    intro acc hi hacc
    have h1 := hd i (by omega)
    have h2 := hv (i + 1) hi
    have h3 := hv i (by omega)
    have h5 := h2.2 (by omega)
    have h4 : 0 ≤ valTo s i := by
      rcases Nat.eq_zero_or_pos i with h | h
      · subst h; exact Int.le_refl _
      · have := h3.2 h; omega
    have hlen : acc.size ≤ 19 := by rw [← dl_len, hacc, List.length_drop, dl_len]; omega
    have ev : valTo s (i + 1) = 10 * valTo s i + (bt s i - 48) := rfl
    obtain ⟨c, hc, hcb⟩ := bt_dl s i (by omega)
    refine Evn.succ ?_
    simp only [glacislaw01_OctetDigits.l0, Option.bind_some]
    have et : Int.tmod (valTo s (i + 1)) 10 = bt s i - 48 := by
      rw [Int.tmod_eq_emod_of_nonneg (by omega), ev]; omega
    have eq2 : Int.tdiv (valTo s (i + 1)) 10 = valTo s i := by
      rw [Int.tdiv_eq_ediv_of_nonneg (by omega), ev]; omega
    rw [et, eq2, wr64 (x := 48 + (bt s i - 48)) (by omega) (by omega), wr64 (x := valTo s i) (by omega) (by omega)]
    have em : (48 + (bt s (i : Int) - 48)) % 256 = bt s i := by omega
    rw [em]
    have hone : (strOfNums [bt s (i : Int)]).size = 1 := by rw [strOfNums_size]; rfl
    refine Evn.iff_pos (by omega) (Evn.iff_pos (by omega) (ih _ (by omega) ?_))
    have e1 : dl (strOfNums [bt s (i : Int)]) = [c] := by
      simp [dl, strOfNums_data, hcb]
    have e2 : dl (strOfNums [bt s (i : Int)] ++ acc) = dl (strOfNums [bt s (i : Int)]) ++ dl acc := by simp [dl]
    have hl : i < (dl s).length := by rw [dl_len]; omega
    rw [List.getElem?_eq_getElem hl] at hc
    have hc' := Option.some.inj hc
    rw [e2, e1, hacc, List.drop_eq_getElem_cons hl, hc']
    rfl
theorem OctetDigits : ∀ (a0 : ByteArray) (a1 : Int), a0.size ≤ 140737488351232 → (Lit.int .i64 a1).wf = true → ∃ k, glacislaw01_OctetDigits.f k a0 a1 = some true := by
  intro s m hs hm
  refine Evn.ex (g := fun k => glacislaw01_OctetDigits.f k s m) ?_
  have hm' : -9223372036854775808 ≤ m ∧ m ≤ 9223372036854775807 := by
    simp only [Lit.wf, Bool.and_eq_true, decide_eq_true_eq] at hm
    exact hm
  unfold glacislaw01_OctetDigits.f
  refine Evn.bind awake01 (Evn.bind (number s (by omega) m hm') ?_)
  by_cases hno : s.size = 0 ∨ m < 0 ∨ (bt s 0 = 48 ∧ 1 < s.size)
  · have e : numB s m = (0, false) := if_pos hno
    rw [e]
    exact Evn.iff_neg (by decide) (Evn.iff_pos rfl (Evn.ret (by simp)))
  have e : numB s m = numFrom s m s.size 0 0 := if_neg hno
  rw [e]
  obtain ⟨v, b, hv⟩ : ∃ v b, numFrom s m s.size 0 0 = (v, b) := ⟨_, _, rfl⟩
  have hfalse : ∀ (d i : Nat) (n : Int), (numFrom s m d i n).2 = false → (numFrom s m d i n).1 = 0 := by
    intro d
    induction d with
    | zero => intro i n h; simp [numFrom] at h
    | succ d ih =>
      intro i n h
      unfold numFrom at h ⊢
      split at h
      · rename_i hc; rw [if_pos hc]
      · rename_i hc; rw [if_neg hc]; exact ih _ _ h
  cases b with
  | false =>
    have := hfalse s.size 0 0 (by rw [hv])
    rw [hv] at this ⊢
    simp only at this
    subst this
    exact Evn.iff_neg (by decide) (Evn.iff_pos rfl (Evn.ret (by simp)))
  | true =>
    obtain ⟨h1, h2⟩ := numFrom_true s m v s.size 0 hv
    rw [Nat.zero_add] at h1 h2
    rw [hv]
    have hdg : ∀ j : Nat, j < s.size → 0 ≤ bt s j - 48 ∧ bt s j - 48 ≤ 9 := fun j hj => ⟨(h2 j (by omega) hj).1, (h2 j (by omega) hj).2.1⟩
    have hmo : ∀ j : Nat, j ≤ s.size → valTo s j ≤ m := by
      intro j hj
      cases j with
      | zero => show (0 : Int) ≤ m; omega
      | succ j => exact (h2 j (by omega) (by omega)).2.2
    have hvm := hmo s.size (Nat.le_refl _)
    by_cases hz : bt s 0 = 48
    · have hs1 : s.size = 1 := by omega
      have hv0 : v = 0 := by
        rw [h1, hs1]
        show 10 * 0 + (bt s ((0 : Nat) : Int) - 48) = 0
        rw [show ((0 : Nat) : Int) = 0 from rfl, hz]; rfl
      subst hv0
      have ed : decide ((s.size : Int) > 19) = false := decide_eq_false (by omega)
      refine Evn.iff_pos rfl (Evn.iff_neg (by omega) (Evn.iff_neg (by omega) ?_))
      rw [ed]
      refine Evn.succ ?_
      simp only [glacislaw01_OctetDigits.j0]
      refine Evn.iff_neg (by decide) (Evn.iff_pos (by simp) (Evn.succ ?_))
      simp only [glacislaw01_OctetDigits.j1]
      refine Evn.succ ?_
      simp only [glacislaw01_OctetDigits.l0]
      refine Evn.iff_neg (by omega) (Evn.iff_pos (by simp) (Evn.ret ?_))
      congr 1
      rw [beq_iff_eq, toList_iff]
      refine dl_inj ?_
      obtain ⟨c, hc, hcb⟩ := bt_dl s 0 (by omega)
      rw [show ((0 : Nat) : Int) = 0 from rfl, hz] at hcb
      have hl := dl_len s
      rw [hs1] at hl
      match hd : dl s, hl with
      | [x], _ =>
        rw [hd] at hc
        simp at hc
        subst hc
        have : x = 48 := UInt8.toNat_inj.1 (by show x.toNat = 48; omega)
        rw [this]; rfl
    · have hp := valTo_pos s s.size hdg (fun h => by
        have := hdg 0 h
        have e0 : ((0 : Nat) : Int) = 0 := rfl
        rw [e0] at this ⊢
        omega)
      have hpos : ∀ j : Nat, j ≤ s.size → valTo s j ≤ 9223372036854775807 ∧ (0 < j → 0 < valTo s j) := by
        intro j hj
        refine ⟨by have := hmo j hj; omega, fun h => ?_⟩
        cases j with
        | zero => omega
        | succ j =>
          have h3 := hp j (by omega)
          have h4 : (0 : Int) < 10 ^ j := Int.pow_pos (by decide)
          omega
      have hsz : s.size ≤ 19 := by
        rcases Nat.lt_or_ge 19 s.size with h | h
        · exfalso
          have h3 := hp 19 (by omega)
          have h4 := (hpos (19 + 1) (by omega)).1
          have h5 : (10 : Int) ^ 19 = 10000000000000000000 := by decide
          omega
        · exact h
      have hv1 := (hpos s.size (Nat.le_refl _)).2 (by omega)
      subst h1
      have ed : decide ((s.size : Int) > 19) = false := decide_eq_false (by omega)
      refine Evn.iff_pos rfl (Evn.iff_neg (by omega) (Evn.iff_neg (by omega) ?_))
      rw [ed]
      refine Evn.succ ?_
      simp only [glacislaw01_OctetDigits.j0]
      refine Evn.iff_neg (by decide) (Evn.iff_neg (by omega) (Evn.succ ?_))
      simp only [glacislaw01_OctetDigits.j1]
      refine digits_l0 s s.size rfl hsz hdg hpos s.size _ (Nat.le_refl _) ?_
      rw [List.drop_of_length_le (by rw [dl_len]; exact Nat.le_refl _)]
      rfl
end Go.Proofs.YtdcnofkcaddkpaaDoor.Pure
