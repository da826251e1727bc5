/- An item that may be is read from its text as itself, and what is read may be, and is written and read the same again: over the printed functions. -/
import Derived.Test.YtbbaokjkmcfceaaDoorQx10
import Derived.Test.YtbbaokjkmcfceaaDoorPl05G
namespace Go.Proofs.YtbbaokjkmcfceaaDoor.Pure
open Go.RowKit Go.Proofs.YtbbaokjkmcfceaaDoor.Q Go.Proofs.YtbbaokjkmcfceaaDoor.Sf Go.Proofs.YtbbaokjkmcfceaaDoor.Pl Go.Proofs.YtbbaokjkmcfceaaDoorW.PrintWords Go.Proofs.YtbbaokjkmcfceaaDoorW.PrintLast
set_option linter.unusedVariables false
theorem few_loop (n i : Int) (t : ByteArray) (l : List S38) (hl : l.length ≤ 100) : ∀ (m j k : Nat), j + m = l.length → m < k →
    ∃ b, glacislaw05_few.l0 k (j : Int) n i t l = some b ∧ (b = true → ∀ q ∈ l.drop j, Short q)
  | 0, j, k, hm, hk => by
    obtain ⟨k, rfl⟩ : ∃ k', k = k' + 1 := ⟨k - 1, by omega⟩
    rw [glacislaw05_few.l0, if_neg (by omega)]
    exact ⟨true, rfl, fun _ q hq => by rw [List.drop_eq_nil_of_le (by omega)] at hq; cases hq⟩
  | m + 1, j, k, hm, hk => by
    obtain ⟨k, rfl⟩ : ∃ k', k = k' + 1 := ⟨k - 1, by omega⟩
    have hj : j < l.length := by omega
    rw [glacislaw05_few.l0, if_pos (by omega), if_pos (by omega), rd_at5 l j hj, wrap_next j (by omega)]
    by_cases c1 : (l[j].f0.size : Int) > 1000
    · rw [if_pos c1]; exact ⟨false, rfl, fun h => by cases h⟩
    rw [if_neg c1]
    by_cases c2 : (l[j].f3.size : Int) > 1000
    · rw [if_pos c2]; exact ⟨false, rfl, fun h => by cases h⟩
    rw [if_neg c2]
    obtain ⟨b, h1, h2⟩ := few_loop n i t l hl m (j + 1) k (by omega) (by omega)
    refine ⟨b, h1, fun hb q hq => ?_⟩
    rw [List.drop_eq_getElem_cons hj] at hq
    rcases List.mem_cons.1 hq with rfl | hq
    · exact ⟨by omega, by omega⟩
    · exact h2 hb q hq
theorem few_at (n i : Int) (t : ByteArray) (l : List S38) (k : Nat) (hk : 103 ≤ k) : ∃ b, glacislaw05_few.f k n i t l = some b ∧ (b = true → l.length ≤ 100 ∧ t.size ≤ 1000 ∧ ∀ q ∈ l, Short q) := by
  obtain ⟨k, rfl⟩ : ∃ k', k = k' + 1 := ⟨k - 1, by omega⟩
  unfold glacislaw05_few.f
  by_cases c : (l.length : Int) > 100
  · rw [if_pos c, glacislaw05_few.j0, if_pos rfl]; exact ⟨false, rfl, fun h => by cases h⟩
  rw [if_neg c]
  by_cases d : (t.size : Int) > 1000
  · rw [decide_eq_true d, glacislaw05_few.j0, if_pos rfl]; exact ⟨false, rfl, fun h => by cases h⟩
  rw [decide_eq_false d, glacislaw05_few.j0, if_neg (by decide)]
  obtain ⟨b, h1, h2⟩ := few_loop n i t l (by omega) l.length 0 k (by omega) (by omega)
  exact ⟨b, h1, fun hb => ⟨by omega, by omega, fun q hq => h2 hb q (by simpa using hq)⟩⟩
theorem parse_any (s : ByteArray) (h : s.size ≤ 2199023255552) : ∃ y, sfitem_Parse.f s = some y := by
  unfold sfitem_Parse.f strings_Trim.f
  rw [if_pos ⟨rfl, by omega⟩]
  simp only [Option.bind_some]
  have hz : (trimSp s).size ≤ s.size := by
    have : L (trimSp s) = Lib.trimB (L s) 32 := by unfold trimSp L; simp
    rw [size_L, size_L, this]; exact trim_len _
  unfold sfitem_Next.f
  rw [if_pos (by omega)]
  cases rdNext (trimSp s) with
  | none => exact ⟨_, rfl⟩
  | some x =>
    obtain ⟨v, l, t⟩ := x
    simp only [Option.bind_some]
    rw [if_pos trivial]
    split
    · split
      · exact ⟨_, rfl⟩
      · exact ⟨_, rfl⟩
    · exact ⟨_, rfl⟩
theorem back_j2 (s : ByteArray) (hs : s.size ≤ 1000) (k : Nat) (hk : 4100 ≤ k) : glacislaw05_SfitemBack.j2 (k + 1) s true = some true := by
  obtain ⟨⟨n, i, t, l, e⟩, hp⟩ := parse_any s (by omega)
  rw [glacislaw05_SfitemBack.j2, hp]
  simp only [Option.bind_some]
  by_cases he : e = 0
  · subst he
    rw [if_pos rfl]
    obtain ⟨u, a1, a2, a3⟩ := parse_inv hp
    have hc := it_count a1
    obtain ⟨o, ho, hoz, hIT⟩ := text_total a1 (by omega)
    rw [ho]
    simp only [Option.bind_some]
    rw [parse_read hIT (by rw [← size_L]; omega) o rfl, B_L]
    simp only [Option.bind_some]
    rw [same_refl l (by omega) _ _ _ k (by omega)]
    simp only [Option.bind_some]
    rw [if_pos trivial, if_pos trivial, if_pos trivial]
  · rw [if_neg he, if_pos trivial]
    obtain ⟨h1, h2⟩ := parse_err hp he
    rw [if_pos h1, h2]; rfl
theorem SfitemBackAll (n i : Int) (t : ByteArray) (l : List S38) (s : ByteArray) : ∃ k, glacislaw05_SfitemBack.f k n i t l s = some true := by
  refine ⟨5000, ?_⟩
  unfold glacislaw05_SfitemBack.f
  rw [awake05]
  simp only [Option.bind_some]
  obtain ⟨b, hb, hfew⟩ := few_at n i t l 5000 (by omega)
  rw [hb]
  simp only [Option.bind_some]
  cases b with
  | false => rw [if_neg (by decide), show (5000 : Nat) = 4999 + 1 from rfl, glacislaw05_SfitemBack.j0, if_pos rfl]
  | true =>
    rw [if_pos rfl]
    by_cases hs : (s.size : Int) > 1000
    · rw [decide_eq_true hs, show (5000 : Nat) = 4999 + 1 from rfl, glacislaw05_SfitemBack.j0, if_pos rfl]
    rw [decide_eq_false hs, show (5000 : Nat) = 4999 + 1 from rfl, glacislaw05_SfitemBack.j0, if_neg (by decide)]
    obtain ⟨hl, ht, hsh⟩ := hfew rfl
    obtain ⟨o, e, ho⟩ := text_any n i t l hl ht hsh
    rw [ho]
    simp only [Option.bind_some]
    have rest := back_j2 s (by omega) 4997 (by omega)
    by_cases he : e = 0
    · subst he
      rw [if_pos rfl]
      by_cases hz : (o.size : Int) ≤ 4000
      · rw [decide_eq_true hz, show (4999 : Nat) = 4998 + 1 from rfl, glacislaw05_SfitemBack.j1, if_pos rfl]
        rw [parse_read (text_back ho) (by rw [← size_L]; omega) o rfl, B_L]
        simp only [Option.bind_some]
        rw [same_refl l (by omega) _ _ _ 4998 (by omega)]
        simp only [Option.bind_some]
        rw [if_pos trivial, if_pos trivial]
        exact rest
      · rw [decide_eq_false hz, show (4999 : Nat) = 4998 + 1 from rfl, glacislaw05_SfitemBack.j1, if_neg (by decide)]
        exact rest
    · rw [if_neg he, show (4999 : Nat) = 4998 + 1 from rfl, glacislaw05_SfitemBack.j1, if_neg (by decide)]
      exact rest
theorem SfitemBack : ∀ (a0_0 : Int) (a0_1 : Int) (a0_2 : ByteArray) (a0_3 : List S38) (a1 : ByteArray), (Lit.int .i64 a0_0).wf = true → (Lit.int .i64 a0_1).wf = true → a0_2.size ≤ 140737488351232 → a0_3.length * 48 ≤ 140737488351232 → (∀ u0 : S38, u0 ∈ a0_3 → u0.f0.size ≤ 140737488351232 ∧ (Lit.int .i64 u0.f1).wf = true ∧ (Lit.int .i64 u0.f2).wf = true ∧ u0.f3.size ≤ 140737488351232) → a1.size ≤ 140737488351232 → ∃ k, glacislaw05_SfitemBack.f k a0_0 a0_1 a0_2 a0_3 a1 = some true :=
  fun n i t l s _ _ _ _ _ _ => SfitemBackAll n i t l s
end Go.Proofs.YtbbaokjkmcfceaaDoor.Pure
