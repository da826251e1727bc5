/- Chapter 5: any value, any parameters and any item of few short texts have an answer; what they tell is read as itself. -/
import Derived.Test.YtbbaokjkmcfceaaDoorPl05F
namespace Go.Proofs.YtbbaokjkmcfceaaDoor.Pl
open Go.RowKit Go.Proofs.YtbbaokjkmcfceaaDoor.Q Go.Proofs.YtbbaokjkmcfceaaDoor.Sf Go.Proofs.YtbbaokjkmcfceaaDoorW.PrintWords Go.Proofs.YtbbaokjkmcfceaaDoorW.PrintLast
set_option linter.unusedVariables false
set_option linter.unusedSimpArgs false
theorem whole_any (s : ByteArray) (m : Int) (hz : s.size ≤ 2199023255552) : ∃ b, sfitem_whole.f s m = some b := by
  unfold sfitem_whole.f sfitem_Next.f
  rw [if_pos hz]
  cases rdNext s with
  | none => exact ⟨false, by simp⟩
  | some x =>
    obtain ⟨v, l, t⟩ := x
    simp only [Option.bind_some]
    rw [if_pos trivial]
    split
    · split
      · exact ⟨_, rfl⟩
      · exact ⟨_, rfl⟩
    · exact ⟨_, rfl⟩
theorem itoa_len (i : Int) (h : -999999999999999 ≤ i ∧ i ≤ 999999999999999) : (itoaBA i).size ≤ 16 := by
  rw [size_L, itoa_L, List.length_append]
  have h1 : (sgO i).length ≤ 1 := by unfold sgO; split <;> simp
  have h2 := dec_len 14 i.natAbs (by omega)
  omega
theorem dec_size (i : Int) (h : -999999999999999 ≤ i ∧ i ≤ 999999999999999) : (decB i).size ≤ 20 := by
  rw [size_L, dec_L, List.length_append, List.length_append, List.length_cons]
  have h1 : (sgO i).length ≤ 1 := by unfold sgO; split <;> simp
  have h2 := dec_len 11 (i.natAbs / 1000) (by omega)
  have h3 := (fr_at (i.natAbs % 1000) (by omega)).2.2.1
  omega
/-- Any value has an answer, of at most so many bytes. -/
theorem value_any (k : ByteArray) (n i : Int) (t : ByteArray) (ht : t.size ≤ 1000) : ∃ o b, sfitem_value.f k n i t = some (o, b) ∧ o.size ≤ 2 * t.size + 20 := by
  have z0 : (⟨#[]⟩ : ByteArray).size = 0 := rfl
  unfold sfitem_value.f
  rw [if_neg (by omega)]
  by_cases hi : i < -999999999999999 ∨ 999999999999999 < i
  · rw [if_pos hi]; exact ⟨_, _, rfl, by omega⟩
  rw [if_neg hi]
  have hi' : -999999999999999 ≤ i ∧ i ≤ 999999999999999 := by omega
  have l1 := itoa_len i hi'
  have l2 := dec_size i hi'
  by_cases h1 : n = 1
  · rw [if_pos h1]; exact ⟨_, _, rfl, by omega⟩
  rw [if_neg h1]
  by_cases h2 : n = 2
  · rw [if_pos h2]; exact ⟨_, _, rfl, by omega⟩
  rw [if_neg h2]
  by_cases h6 : n = 6
  · rw [if_pos h6]
    have z1 : ((⟨#[63]⟩ : ByteArray) ++ itoaBA i).size = 1 + (itoaBA i).size := by rw [ByteArray.size_append]; rfl
    split
    · exact ⟨_, _, rfl, by omega⟩
    · exact ⟨_, _, rfl, by omega⟩
  rw [if_neg h6]
  by_cases h3 : n = 3
  · rw [if_pos h3]
    by_cases hp : Plain (L t)
    · rw [text_plain t i hp]
      refine ⟨_, _, rfl, ?_⟩
      have := esc_len (L t)
      rw [size_L] at ht ⊢
      rw [L_B]
      simp only [List.length_cons, List.length_append, List.length_nil]
      rw [size_L]
      omega
    · rw [text_bad t i hp]; exact ⟨_, _, rfl, by omega⟩
  rw [if_neg h3]
  by_cases h4 : n = 4
  · rw [if_pos h4]
    by_cases h0 : i = 0
    · rw [if_pos h0]
      obtain ⟨b, hb⟩ := whole_any t 4 (by omega)
      rw [hb]; exact ⟨_, _, rfl, by omega⟩
    · rw [if_neg h0]; exact ⟨_, _, rfl, by omega⟩
  rw [if_neg h4]
  by_cases h5 : n = 5
  · rw [if_pos h5]
    have z2 : (((⟨#[58]⟩ : ByteArray) ++ t) ++ (⟨#[58]⟩ : ByteArray)).size = 1 + t.size + 1 := by rw [ByteArray.size_append, ByteArray.size_append]; rfl
    by_cases h0 : i = 0
    · rw [if_pos h0]
      obtain ⟨b, hb⟩ := whole_any (((⟨#[58]⟩ : ByteArray) ++ t) ++ (⟨#[58]⟩ : ByteArray)) 5 (by omega)
      rw [hb]; exact ⟨_, _, rfl, by omega⟩
    · rw [if_neg h0]; exact ⟨_, _, rfl, by omega⟩
  rw [if_neg h5]; exact ⟨_, _, rfl, by omega⟩
/-- Few short texts. -/
def Short (p : S38) : Prop := p.f0.size ≤ 1000 ∧ p.f3.size ≤ 1000
theorem part_size (p : S38) (o v : ByteArray) : (partT p o v).size ≤ o.size + p.f0.size + v.size + 2 := by
  have := part_L p o v
  rw [size_L, this, List.length_append, size_L, size_L, size_L]
  split
  · simp only [List.length_cons, List.length_append]; omega
  · simp only [List.length_cons]; omega
theorem tail_any : ∀ (ps : List S38) (seen : List ByteArray) (o : ByteArray), (∀ q ∈ ps, Short q) → o.size + ps.length * 4000 ≤ 1000000 → ∃ o' e, tailF ps seen o = some (o', e) ∧ o'.size ≤ o.size + ps.length * 4000
  | [], seen, o, _, _ => ⟨o, 0, by rw [tailF], by omega⟩
  | p :: ps, seen, o, hf, hz => by
    have hp := hf p (List.mem_cons_self ..)
    obtain ⟨v, b, hv, hvz⟩ := value_any p.f0 p.f1 p.f2 p.f3 hp.2
    have hp1 := hp.1
    have hp2 := hp.2
    rw [List.length_cons] at hz ⊢
    rw [tailF, hv]
    simp only [Option.bind_some]
    rw [if_neg (by simp only [Decidable.not_not]; refine ⟨by omega, by omega, by omega⟩)]
    have z0 : (⟨#[]⟩ : ByteArray).size = 0 := rfl
    by_cases hb : badP p b seen = true
    · rw [if_pos hb]; exact ⟨_, _, rfl, by omega⟩
    · rw [if_neg hb]
      have hs := part_size p o v
      obtain ⟨o', e, h1, h2⟩ := tail_any ps (p.f0 :: seen) (partT p o v) (fun q hq => hf q (List.mem_cons_of_mem _ hq)) (by omega)
      exact ⟨o', e, h1, by omega⟩
/-- Any item of few short texts has an answer. -/
theorem text_any (n i : Int) (t : ByteArray) (l : List S38) (hl : l.length ≤ 100) (ht : t.size ≤ 1000) (hs : ∀ q ∈ l, Short q) : ∃ o e, sfitem_Text.f n i t l = some (o, e) := by
  have z0 : (⟨#[]⟩ : ByteArray).size = 0 := rfl
  obtain ⟨v, b, hv, hvz⟩ := value_any ⟨#[]⟩ n i t ht
  obtain ⟨o, e, ho, hoz⟩ := tail_any l [] ⟨#[]⟩ hs (by omega)
  unfold sfitem_Text.f sfitem_Tail.f
  rw [hv]
  simp only [Option.bind_some]
  rw [if_pos (by omega), ho]
  simp only [Option.bind_some]
  split
  · split
    · rw [if_pos (by omega)]; exact ⟨_, _, rfl⟩
    · exact ⟨_, _, rfl⟩
  · exact ⟨_, _, rfl⟩
/-- What an item's text tells is the item. -/
theorem text_back {n i : Int} {t o : ByteArray} {l : List S38} (h : sfitem_Text.f n i t l = some (o, 0)) : IT (L o) n i (L t) l := by
  unfold sfitem_Text.f at h
  obtain ⟨⟨v, b⟩, hv, h⟩ := Option.bind_eq_some_iff.1 h
  obtain ⟨⟨o', e⟩, ho, h⟩ := Option.bind_eq_some_iff.1 h
  simp only [] at h
  cases b with
  | false => rw [if_neg (by decide)] at h; simp at h
  | true =>
    rw [if_pos rfl] at h
    by_cases he : e = 0
    · rw [if_pos he] at h
      subst he
      by_cases hz : v.size + o'.size ≤ 9223372036854775807
      · rw [if_pos hz] at h
        have h := Option.some.inj h
        simp only [Prod.mk.injEq] at h
        rw [← h.1, L_app]
        unfold sfitem_Tail.f at ho
        by_cases hl : l.length ≤ 140737488355327
        · rw [if_pos hl] at ho
          obtain ⟨u2, g1, g2⟩ := tail_back l [] ⟨#[]⟩ o' [] ho (fun q hq => by cases hq)
          rw [L_nil, List.nil_append] at g1
          rw [List.nil_append] at g2
          exact ⟨L v, L o', rfl, value_back _ _ _ _ _ hv, by rw [g1]; exact g2⟩
        · rw [if_neg hl] at ho; cases ho
      · rw [if_neg hz] at h; cases h
    · rw [if_neg he] at h; simp at h
/-- Where reading fails nothing is told. -/
theorem parse_err {s : ByteArray} {n i e : Int} {t : ByteArray} {l : List S38} (h : sfitem_Parse.f s = some (n, i, t, l, e)) (he : e ≠ 0) : n = 0 ∧ l = [] := by
  unfold sfitem_Parse.f at h
  obtain ⟨y, hy, h⟩ := Option.bind_eq_some_iff.1 h
  obtain ⟨z, hz, h⟩ := Option.bind_eq_some_iff.1 h
  by_cases c1 : z.2.2.2.2.2 = 0
  · rw [if_pos c1] at h
    by_cases c2 : z.2.2.2.2.1.toList = ([] : List UInt8)
    · rw [if_pos c2] at h
      by_cases c3 : (s.size : Int) > 4000
      · rw [if_pos c3] at h
        have h := Option.some.inj h
        simp only [Prod.mk.injEq] at h
        exact ⟨h.1.symm, h.2.2.2.1.symm⟩
      · rw [if_neg c3] at h
        have h := Option.some.inj h
        simp only [Prod.mk.injEq] at h
        exact absurd h.2.2.2.2.symm he
    · rw [if_neg c2] at h
      have h := Option.some.inj h
      simp only [Prod.mk.injEq] at h
      exact ⟨h.1.symm, h.2.2.2.1.symm⟩
  · rw [if_neg c1] at h
    have h := Option.some.inj h
    simp only [Prod.mk.injEq] at h
    exact ⟨h.1.symm, h.2.2.2.1.symm⟩
end Go.Proofs.YtbbaokjkmcfceaaDoor.Pl
