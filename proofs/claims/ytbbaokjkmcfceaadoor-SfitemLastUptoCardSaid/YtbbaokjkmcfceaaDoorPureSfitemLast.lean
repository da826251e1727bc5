/- Of parameters of one key the last value counts, at the first one's place: over the printed functions. -/
import Derived.Test.YtbbaokjkmcfceaaDoorQx7
import Derived.Test.YtbbaokjkmcfceaaDoorPl05F
namespace Go.Proofs.YtbbaokjkmcfceaaDoor.Pure
open Go.RowKit Go.Proofs.YtbbaokjkmcfceaaDoor.Q Go.Proofs.YtbbaokjkmcfceaaDoor.Sf Go.Proofs.YtbbaokjkmcfceaaDoor.Pl Go.Proofs.YtbbaokjkmcfceaaDoorW.PrintWords Go.Proofs.YtbbaokjkmcfceaaDoorW.PrintLast
set_option linter.unusedVariables false
theorem with_at (l : List S38) (i : Nat) (hi : i < l.length) (hd : Dist l) (p : S38) : withP l[i].f0 l p = l.set i p := by
  have : l.findIdx? (fun q => decide (q.f0 = l[i].f0)) = some i := by
    rw [List.findIdx?_eq_some_iff_getElem]
    refine ⟨hi, by simp, fun j hj => ?_⟩
    unfold Dist at hd
    have hne : l[j].f0 ≠ l[i].f0 := by
      intro e
      have h1 : (l.map (·.f0))[j]'(by simp; omega) = (l.map (·.f0))[i]'(by simp; omega) := by simpa using e
      exact List.pairwise_iff_getElem.1 hd j i (by simp; omega) (by simp; omega) hj h1
    simpa using hne
  unfold withP
  rw [this]
theorem last_loop (l : List S38) (i n1 i1 n2 i2 : Int) (t1 t2 : ByteArray) (j0 : Nat) (hj : j0 < l.length) (hi : i = (j0 : Int)) (hl : l.length ≤ 100000) : ∀ (m j k : Nat), j + m = l.length → m < k →
    glacislaw05_SfitemLast.l0 k true i (j : Int) n1 i1 t1 l n2 i2 t2 (l.set j0 ⟨l[j0].f0, 1, 77, ⟨#[]⟩⟩) = some true
  | 0, j, k, hm, hk => by
    obtain ⟨k, rfl⟩ : ∃ k', k = k' + 1 := ⟨k - 1, by omega⟩
    rw [glacislaw05_SfitemLast.l0, if_neg (by omega)]
  | m + 1, j, k, hm, hk => by
    obtain ⟨k, rfl⟩ : ∃ k', k = k' + 1 := ⟨k - 1, by omega⟩
    have ih := last_loop l i n1 i1 n2 i2 t1 t2 j0 hj hi hl m (j + 1) k (by omega) (by omega)
    have hjl : j < l.length := by omega
    have hjs : j < (l.set j0 ⟨l[j0].f0, 1, 77, ⟨#[]⟩⟩).length := by rw [List.length_set]; omega
    have e1 := rd_at5 l j hjl
    have e2 := rd_at5 _ j hjs
    rw [glacislaw05_SfitemLast.l0, if_pos (by omega), if_pos (by omega), e1, e2, wrap_next j (by omega)]
    by_cases hc : (j : Int) = i
    · have : j = j0 := by omega
      subst this
      rw [if_pos hc, if_pos (by rw [List.length_set]; omega)]
      have e3 : (l.set j ⟨l[j].f0, 1, 77, ⟨#[]⟩⟩)[j] = ⟨l[j].f0, 1, 77, ⟨#[]⟩⟩ := by simp
      rw [e3, if_neg (by simp only [L_toList]; simp [L])]
      exact ih
    · rw [if_neg hc, if_pos (by rw [List.length_set]; omega)]
      have e3 : (l.set j0 ⟨l[j0].f0, 1, 77, ⟨#[]⟩⟩)[j] = l[j] := by
        rw [List.getElem_set]; rw [if_neg (by omega)]
      rw [e3, if_neg (by simp)]
      exact ih
theorem last_j1 (s : ByteArray) (n i : Int) (t : ByteArray) (l : List S38) (hp : sfitem_Parse.f s = some (n, i, t, l, 0)) (h0 : l.length ≠ 0) (hs : s.size ≤ 1000) (x : Int) (hx : 0 ≤ x) :
    glacislaw05_SfitemLast.j1 (l.length + 3) x true n i t l = some true := by
  obtain ⟨u, a1, a2, a3⟩ := parse_inv hp
  have hcount := it_count a1
  obtain ⟨o, ho, hoz, hIT⟩ := text_total a1 (by omega)
  obtain ⟨a, b, rfl, hv, hpt⟩ := a1
  rw [List.length_append] at a2 hoz hcount
  obtain ⟨f1, f2, f3⟩ := pt_fine 1000 (by omega) hpt (by omega) (fun q hq => by cases hq) (by unfold Dist; simp)
  obtain ⟨j0, hj0⟩ : ∃ j0 : Nat, Int.tmod x (l.length : Int) = (j0 : Int) := ⟨(Int.tmod x (l.length : Int)).toNat, by
    have := Int.tmod_nonneg (l.length : Int) hx; omega⟩
  have hjl : j0 < l.length := by have := Int.tmod_lt_of_pos x (show (0 : Int) < (l.length : Int) by omega); omega
  rw [glacislaw05_SfitemLast.j1, if_neg (by omega), ho]
  simp only [Option.bind_some]
  have hk := (f1 _ (List.getElem_mem hjl)).small
  have hkT := (f1 _ (List.getElem_mem hjl)).key
  rw [← size_L] at hk
  have z1 : (⟨#[59]⟩ : ByteArray).size = 1 := rfl
  rw [if_pos trivial, if_pos (by omega), hj0, if_pos (by omega), if_pos (by omega), rd_at5 l j0 hjl, if_pos (by rw [ByteArray.size_append]; omega), if_pos (by rw [ByteArray.size_append, ByteArray.size_append]; omega)]
  have hz : L (((o ++ (⟨#[59]⟩ : ByteArray)) ++ l[j0].f0) ++ (⟨#[61, 55, 55]⟩ : ByteArray)) = L o ++ (59 :: ([] ++ (L l[j0].f0 ++ (61 :: ([55, 55] ++ []))))) := by
    rw [L_app, L_app, L_app]
    show ((L o ++ [59]) ++ L l[j0].f0) ++ [61, 55, 55] = _
    simp
  have hv77 : VT [55, 55] 1 77 [] := by
    have := VT.int [] [55, 55] (Or.inl rfl) (by simp) (by decide) (by decide)
    exact this
  have hlast : PT (59 :: ([] ++ (L l[j0].f0 ++ (61 :: ([55, 55] ++ []))))) l (l.set j0 ⟨l[j0].f0, 1, 77, ⟨#[]⟩⟩) := by
    have e : withP (B (L l[j0].f0)) l ⟨B (L l[j0].f0), 1, 77, B []⟩ = l.set j0 ⟨l[j0].f0, 1, 77, ⟨#[]⟩⟩ := by rw [B_L, B_nil]; exact with_at l j0 hjl f2 _
    exact PT.val [] (L l[j0].f0) [55, 55] [] 1 77 [] l _ (fun c hc => by cases hc) hkT hv77 (by rw [e]; exact PT.nil _)
  obtain ⟨a', b', e', hv', hp'⟩ := hIT
  have hIT2 : IT (L o ++ (59 :: ([] ++ (L l[j0].f0 ++ (61 :: ([55, 55] ++ [])))))) n i (L t) (l.set j0 ⟨l[j0].f0, 1, 77, ⟨#[]⟩⟩) :=
    ⟨a', b' ++ (59 :: ([] ++ (L l[j0].f0 ++ (61 :: ([55, 55] ++ []))))), by rw [e']; simp, hv', PT.app hp' hlast⟩
  have hlen : (L o ++ (59 :: ([] ++ (L l[j0].f0 ++ (61 :: ([55, 55] ++ [])))))).length ≤ 4000 := by
    simp only [List.length_append, List.length_cons, List.length_nil]
    rw [size_L] at hoz hk
    omega
  rw [parse_read hIT2 hlen _ hz, B_L]
  simp only [Option.bind_some]
  rw [if_pos trivial]
  have hb : ((((l.set j0 ⟨l[j0].f0, 1, 77, ⟨#[]⟩⟩).length : Nat) : Int) != (l.length : Int)) = false := by rw [List.length_set]; simp
  rw [hb, glacislaw05_SfitemLast.j2, if_neg (by decide)]
  have := last_loop l (j0 : Int) n i n i t t j0 hjl rfl (by omega) l.length 0 (l.length + 1) (by omega) (by omega)
  exact this
theorem parse_some (s : ByteArray) (h : s.size ≤ 2199023255552) : ∃ y, sfitem_Parse.f s = some y := by
  unfold sfitem_Parse.f strings_Trim.f
  rw [if_pos ⟨rfl, by omega⟩]
  simp only [Option.bind_some]
  have hz : (trimSp s).size ≤ s.size := by
    have : L (trimSp s) = Lib.trimB (L s) 32 := by unfold trimSp L; simp
    rw [size_L, size_L, this]; exact trim_len _
  unfold sfitem_Next.f
  rw [if_pos (by omega)]
  cases rdNext (trimSp s) with
  | none => exact ⟨_, rfl⟩
  | some x =>
    obtain ⟨v, l, t⟩ := x
    simp only [Option.bind_some]
    rw [if_pos trivial]
    split
    · split
      · exact ⟨_, rfl⟩
      · exact ⟨_, rfl⟩
    · exact ⟨_, rfl⟩
theorem SfitemLast : ∀ (a0 : ByteArray) (a1 : Int), a0.size ≤ 1048576 → (Lit.int .i64 a1).wf = true → ∃ k, glacislaw05_SfitemLast.f k a0 a1 = some true := by
  intro s x hs0 hx
  obtain ⟨x0, x1⟩ : -9223372036854775808 ≤ x ∧ x ≤ 9223372036854775807 := by
    simpa [Lit.wf, IntKind.min, IntKind.max, IntKind.signed, IntKind.bits] using hx
  have hgo : ∀ k n i t l (b : Bool), glacislaw05_SfitemLast.j0 (k + 1) x true true n i t l = some true := by
    intro k n i t l b
    rw [glacislaw05_SfitemLast.j0, if_pos rfl]
  obtain ⟨⟨n, i, t, l, e⟩, hp⟩ : ∃ y, sfitem_Parse.f s = some y := parse_some s (by omega)
  refine ⟨l.length + 4, ?_⟩
  unfold glacislaw05_SfitemLast.f
  rw [awake05]
  simp only [Option.bind_some]
  rw [hp]
  simp only [Option.bind_some]
  by_cases he : e = 0
  · subst he
    rw [if_pos rfl]
    by_cases hl : (l.length : Int) = 0
    · rw [if_pos hl]; exact hgo _ _ _ _ _ true
    · rw [if_neg hl]
      by_cases hs : (s.size : Int) > 1000
      · rw [decide_eq_true hs]; exact hgo _ _ _ _ _ true
      · rw [decide_eq_false hs, glacislaw05_SfitemLast.j0, if_neg (by decide)]
        by_cases hn : x < 0
        · rw [if_pos hn]
          refine last_j1 s n i t l hp (by omega) (by omega) _ ?_
          unfold wrap64; omega
        · rw [if_neg hn]
          exact last_j1 s n i t l hp (by omega) (by omega) _ (by omega)
  · rw [if_neg he]; exact hgo _ _ _ _ _ true
end Go.Proofs.YtbbaokjkmcfceaaDoor.Pure
