/- Chapter 5: parameters' text, there and back. -/
import Derived.Test.YtbbaokjkmcfceaaDoorPl05E
namespace Go.Proofs.YtbbaokjkmcfceaaDoor.Pl
open Go.RowKit Go.Proofs.YtbbaokjkmcfceaaDoor.Q Go.Proofs.YtbbaokjkmcfceaaDoor.Sf Go.Proofs.YtbbaokjkmcfceaaDoorW.PrintWords Go.Proofs.YtbbaokjkmcfceaaDoorW.PrintLast
set_option linter.unusedVariables false
set_option linter.unusedSimpArgs false
theorem s38_ext {p : S38} {a : ByteArray} {b c : Int} {d : ByteArray} (h0 : p.f0 = a) (h1 : p.f1 = b) (h2 : p.f2 = c) (h3 : p.f3 = d) : p = ⟨a, b, c, d⟩ := by
  obtain ⟨x, y, z, u⟩ := p; simp only at h0 h1 h2 h3; subst h0 h1 h2 h3; rfl
theorem rd_at5 (l : List S38) (j : Nat) (h : j < l.length) : rd_T38 l (j : Int) = l[j] := by
  unfold rd_T38; simp [List.getD_eq_getElem?_getD, h]
theorem with_new (k : ByteArray) (l : List S38) (p : S38) (h : ∀ q ∈ l, q.f0 ≠ k) : withP k l p = l ++ [p] := by
  refine withP_none k l p fun j hj => ?_
  rw [rd_at5 l j hj]; exact h _ (List.getElem_mem hj)
theorem flag_inv {u : List UInt8} {i : Int} {t : List UInt8} (h : VT u 6 i t) (hi : i ≠ 0) : i = 1 ∧ t = [] := by
  generalize hn : (6 : Int) = n at h
  cases h <;> first | exact ⟨rfl, rfl⟩ | exact absurd rfl hi | (exfalso; revert hn; decide)
theorem inL_iff (s : ByteArray) (seen : List ByteArray) : inL s seen = true ↔ s ∈ seen := by
  unfold inL
  rw [List.any_eq_true]
  constructor
  · rintro ⟨y, hy, e⟩; rw [← of_decide_eq_true e]; exact hy
  · intro h; exact ⟨s, h, by simp⟩
theorem key_all {k : ByteArray} (h1 : (keyF k).2.2 = 0) (h2 : (keyF k).2.1.toList = []) : KT (L k) := by
  unfold keyF at h1 h2
  cases hk : rdKey k with
  | none => rw [hk] at h1; simp at h1
  | some x =>
    obtain ⟨a, t⟩ := x
    rw [hk] at h2
    simp only [] at h2
    obtain ⟨b1, b2⟩ := key_inv hk
    rw [L_toList] at h2
    rw [h2, List.append_nil] at b1
    rw [b1]; exact b2
theorem key_ok {k : ByteArray} (h : KT (L k)) : (keyF k).2.2 = 0 ∧ (keyF k).2.1.toList = [] := by
  have := key_read (L k) [] h (fun c r' e => by cases e) k (by simp)
  unfold keyF
  rw [this]
  exact ⟨rfl, by rw [L_toList, L_B]⟩
theorem bad_not {p : S38} {b : Bool} {seen : List ByteArray} (h : badP p b seen = false) : KT (L p.f0) ∧ b = true ∧ p.f0 ∉ seen := by
  unfold badP at h
  simp only [Bool.or_eq_false_iff, bne_eq_false_iff_eq, Bool.not_eq_false'] at h
  refine ⟨key_all h.1 h.2.1, h.2.2.1, fun k => ?_⟩
  rw [(inL_iff _ _).2 k] at h
  exact absurd h.2.2.2 (by decide)
theorem bad_of {p : S38} {b : Bool} {seen : List ByteArray} (h1 : KT (L p.f0)) (h2 : b = true) (h3 : p.f0 ∉ seen) : badP p b seen = false := by
  have k := key_ok h1
  have : inL p.f0 seen = false := by
    cases e : inL p.f0 seen with
    | false => rfl
    | true => exact absurd ((inL_iff _ _).1 e) h3
  unfold badP
  rw [k.1, k.2, h2, this]; rfl
theorem part_L (p : S38) (o v : ByteArray) : L (partT p o v) = L o ++ (if p.f1 ≠ 6 ∨ p.f2 = 0 then 59 :: (L p.f0 ++ (61 :: L v)) else 59 :: L p.f0) := by
  unfold partT
  split
  · rw [L_app, L_app, L_app, L_app]
    show (L o ++ ([59] ++ L p.f0)) ++ ([61] ++ L v) = _
    simp
  · rw [L_app, L_app]
    show L o ++ ([59] ++ L p.f0) = _
    simp
/-- What parameters' text tells is the parameters. -/
theorem tail_back : ∀ (ps : List S38) (seen : List ByteArray) (o o' : ByteArray) (l0 : List S38), tailF ps seen o = some (o', 0) → (∀ q ∈ l0, q.f0 ∈ seen) → ∃ u, L o' = L o ++ u ∧ PT u l0 (l0 ++ ps)
  | [], seen, o, o', l0, h, hs => by
    rw [tailF] at h
    have h := Option.some.inj h
    simp only [Prod.mk.injEq] at h
    exact ⟨[], by rw [h.1]; simp, by rw [List.append_nil]; exact PT.nil l0⟩
  | p :: ps, seen, o, o', l0, h, hs => by
    rw [tailF] at h
    obtain ⟨⟨v, b⟩, hv, h⟩ := Option.bind_eq_some_iff.1 h
    simp only [] at h
    by_cases hz : p.f0.size ≤ 2199023255552 ∧ o.size ≤ 1152921504606846976 ∧ v.size ≤ 1152921504606846976
    · rw [if_neg (by simpa using hz)] at h
      cases hb : badP p b seen with
      | true => rw [hb, if_pos rfl] at h; simp at h
      | false =>
        rw [hb, if_neg (by decide)] at h
        obtain ⟨b1, b2, b3⟩ := bad_not hb
        subst b2
        have hnew : ∀ q ∈ l0, q.f0 ≠ p.f0 := fun q hq e => b3 (e ▸ hs q hq)
        have ih := tail_back ps (p.f0 :: seen) (partT p o v) o' (l0 ++ [p]) h (by
          intro q hq
          rcases List.mem_append.1 hq with hq | hq
          · exact List.mem_cons_of_mem _ (hs q hq)
          · rw [List.mem_singleton.1 hq]; exact List.mem_cons_self ..)
        obtain ⟨u, hu, hp⟩ := ih
        rw [part_L] at hu
        rw [List.append_assoc, List.singleton_append] at hp
        have hvt := value_back p.f0 p.f1 p.f2 p.f3 v hv
        by_cases hf : p.f1 ≠ 6 ∨ p.f2 = 0
        · rw [if_pos hf] at hu
          have ew : withP (B (L p.f0)) l0 ⟨B (L p.f0), p.f1, p.f2, B (L p.f3)⟩ = l0 ++ [p] := by
            rw [B_L, B_L]; exact with_new _ _ _ hnew
          have := PT.val [] (L p.f0) (L v) u p.f1 p.f2 (L p.f3) l0 (l0 ++ p :: ps) (fun c hc => by cases hc) b1 hvt (by rw [ew]; exact hp)
          exact ⟨_, by rw [hu]; simp, this⟩
        · rw [if_neg hf] at hu
          have h6 : p.f1 = 6 := Classical.byContradiction fun k => hf (Or.inl k)
          rw [h6] at hvt
          obtain ⟨e1, e2⟩ := flag_inv hvt (fun k => hf (Or.inr k))
          have ep : p = ⟨p.f0, 6, 1, ⟨#[]⟩⟩ := s38_ext rfl h6 e1 (eq_nil e2)
          have ew : withP (B (L p.f0)) l0 ⟨B (L p.f0), 6, 1, ⟨#[]⟩⟩ = l0 ++ [p] := by
            rw [B_L, ← ep]; exact with_new _ _ _ hnew
          have := PT.flag [] (L p.f0) u l0 (l0 ++ p :: ps) (fun c hc => by cases hc) b1 (by rw [ew]; exact hp)
          exact ⟨_, by rw [hu]; simp, this⟩
    · exact absurd h (by rw [if_pos (by simpa using hz)]; simp)
/-- A parameter that a text tells: its key, its value, and a bound of its text. -/
structure Fine (N : Nat) (p : S38) : Prop where
  key : KT (L p.f0)
  small : (L p.f0).length ≤ N
  val : ∃ w, VT w p.f1 p.f2 (L p.f3) ∧ w.length ≤ N
def cost (p : S38) : Nat := 1 + p.f0.size + (if p.f1 ≠ 6 ∨ p.f2 = 0 then 1 + (match sfitem_value.f p.f0 p.f1 p.f2 p.f3 with | some (o, _) => o.size | none => 0) else 0)
def costs (l : List S38) : Nat := (l.map cost).sum
theorem costs_app (a b : List S38) : costs (a ++ b) = costs a + costs b := by unfold costs; simp
theorem costs_cons (p : S38) (l : List S38) : costs (p :: l) = cost p + costs l := by unfold costs; simp
theorem costs_set (l : List S38) (i : Nat) (p : S38) : costs (l.set i p) ≤ costs l + cost p := by
  induction l generalizing i with
  | nil => simp [costs]
  | cons x l ih =>
    cases i with
    | zero => rw [List.set_cons_zero, costs_cons, costs_cons]; omega
    | succ i => have := ih i; rw [List.set_cons_succ, costs_cons, costs_cons]; omega
theorem mem_with {k : ByteArray} {l : List S38} {p q : S38} (h : q ∈ withP k l p) : q = p ∨ q ∈ l := by
  unfold withP at h
  split at h
  · rcases List.mem_or_eq_of_mem_set h with h | h
    · exact Or.inr h
    · exact Or.inl h
  · rcases List.mem_append.1 h with h | h
    · exact Or.inr h
    · exact Or.inl (List.mem_singleton.1 h)
theorem cost_with (k : ByteArray) (l : List S38) (p : S38) : costs (withP k l p) ≤ costs l + cost p := by
  unfold withP
  split
  · exact costs_set _ _ _
  · rw [costs_app]; simp [costs]
/-- No key twice. -/
def Dist (l : List S38) : Prop := (l.map (·.f0)).Nodup
theorem set_keys (l : List S38) (i : Nat) (p : S38) (hl : i < l.length) (hp : p.f0 = l[i].f0) : (l.set i p).map (·.f0) = l.map (·.f0) := by
  rw [List.map_set, hp]
  apply List.ext_getElem?
  intro j
  rw [List.getElem?_set]
  split
  · rename_i e; subst e; simp [hl]
  · rfl
theorem dist_with (k : ByteArray) (l : List S38) (p : S38) (hp : p.f0 = k) (h : Dist l) : Dist (withP k l p) := by
  unfold withP
  split
  · rename_i i hi
    obtain ⟨hl, h1, _⟩ := List.findIdx?_eq_some_iff_getElem.1 hi
    have hk : l[i].f0 = k := of_decide_eq_true h1
    unfold Dist at h ⊢
    rw [set_keys l i p hl (hp.trans hk.symm)]; exact h
  · rename_i hn
    unfold Dist at h ⊢
    rw [List.map_append, List.nodup_append]
    refine ⟨h, by simp, ?_⟩
    intro a ha b hb e
    obtain ⟨q, hq, rfl⟩ := List.mem_map.1 ha
    have := List.findIdx?_eq_none_iff.1 hn q hq
    have hb' : b = p.f0 := by simpa using hb
    have := of_decide_eq_false this
    exact this (e.trans (hb'.trans hp))
theorem cost_val {k : List UInt8} {w : List UInt8} {n i : Int} {t : List UInt8} (hv : VT w n i t) (hw : w.length ≤ 4000) : cost ⟨B k, n, i, B t⟩ ≤ 2 + k.length + 2 * w.length := by
  obtain ⟨o, ho, hz⟩ := value_total (B k) hv (by omega)
  unfold cost
  simp only []
  rw [ho, size_L, L_B]
  simp only []
  split <;> omega
theorem cost_flag (k : List UInt8) : cost ⟨B k, 6, 1, ⟨#[]⟩⟩ = 1 + k.length := by
  unfold cost
  simp only []
  rw [if_neg (by decide), size_L, L_B]; omega
theorem pt_fine {u : List UInt8} {l l1 : List S38} (N : Nat) (hN : N ≤ 4000) (h : PT u l l1) : u.length ≤ N → (∀ q ∈ l, Fine N q) → Dist l → (∀ q ∈ l1, Fine N q) ∧ Dist l1 ∧ costs l1 ≤ costs l + 2 * u.length := by
  induction h with
  | nil l => exact fun _ h1 h2 => ⟨h1, h2, by simp⟩
  | flag b k u l l1 hb hk h ih =>
    intro hu h1 h2
    simp only [List.length_cons, List.length_append] at hu
    have hkl : 0 < k.length := by obtain ⟨c, w, rfl, _⟩ := hk; simp
    obtain ⟨a1, a2, a3⟩ := ih (by omega) (by
      intro q hq
      rcases mem_with hq with rfl | hq
      · exact ⟨by rw [L_B]; exact hk, by rw [L_B]; omega, [63, 49], VT.one, by simp; omega⟩
      · exact h1 q hq) (dist_with _ _ _ rfl h2)
    refine ⟨a1, a2, ?_⟩
    have c1 := cost_with (B k) l ⟨B k, 6, 1, ⟨#[]⟩⟩
    rw [cost_flag] at c1
    simp only [List.length_cons, List.length_append]
    omega
  | val b k w u n i t l l1 hb hk hv h ih =>
    intro hu h1 h2
    simp only [List.length_cons, List.length_append] at hu
    obtain ⟨a1, a2, a3⟩ := ih (by omega) (by
      intro q hq
      rcases mem_with hq with rfl | hq
      · exact ⟨by rw [L_B]; exact hk, by rw [L_B]; omega, w, by rw [L_B]; exact hv, by omega⟩
      · exact h1 q hq) (dist_with _ _ _ rfl h2)
    refine ⟨a1, a2, ?_⟩
    have c1 := cost_with (B k) l ⟨B k, n, i, B t⟩
    have c2 := cost_val (k := k) hv (by omega)
    have hkl : 0 < k.length := by obtain ⟨c, w, rfl, _⟩ := hk; simp
    simp only [List.length_cons, List.length_append]
    omega
/-- Parameters that texts tell have a text. -/
theorem tail_total : ∀ (ps : List S38) (seen : List ByteArray) (o : ByteArray), (∀ q ∈ ps, Fine 4000 q) → Dist ps → (∀ q ∈ ps, q.f0 ∉ seen) → o.size + costs ps ≤ 100000 → ∃ o', tailF ps seen o = some (o', 0) ∧ o'.size ≤ o.size + costs ps
  | [], seen, o, _, _, _, _ => ⟨o, by rw [tailF], by omega⟩
  | p :: ps, seen, o, hf, hd, hs, hz => by
    have hp := hf p (List.mem_cons_self ..)
    obtain ⟨w, hv, hw⟩ := hp.val
    obtain ⟨v, hv', hvz⟩ := value_total p.f0 hv (by omega)
    rw [B_L] at hv'
    rw [costs_cons] at hz ⊢
    have hc : cost p = 1 + p.f0.size + (if p.f1 ≠ 6 ∨ p.f2 = 0 then 1 + v.size else 0) := by unfold cost; rw [hv']
    unfold Dist at hd
    rw [List.map_cons, List.nodup_cons] at hd
    rw [tailF, hv']
    simp only [Option.bind_some]
    rw [if_neg (by simp only [Decidable.not_not]; refine ⟨by omega, by omega, by omega⟩), bad_of hp.key rfl (hs p (List.mem_cons_self ..)), if_neg (by decide)]
    have hsz : (partT p o v).size = o.size + cost p := by
      have := part_L p o v
      rw [size_L, this, List.length_append, hc, size_L, size_L, size_L]
      split
      · simp only [List.length_cons, List.length_append]; omega
      · simp only [List.length_cons]; omega
    obtain ⟨o', h1, h2⟩ := tail_total ps (p.f0 :: seen) (partT p o v) (fun q hq => hf q (List.mem_cons_of_mem _ hq)) hd.2 (by
      intro q hq k
      rcases List.mem_cons.1 k with k | k
      · exact hd.1 (List.mem_map.2 ⟨q, hq, k⟩)
      · exact hs q (List.mem_cons_of_mem _ hq) k) (by omega)
    exact ⟨o', h1, by omega⟩
/-- An item that a text tells has a text; that text tells the item. -/
theorem text_total {u : List UInt8} {n i : Int} {t : ByteArray} {l : List S38} (h : IT u n i (L t) l) (hu : u.length ≤ 4000) : ∃ o, sfitem_Text.f n i t l = some (o, 0) ∧ o.size ≤ 2 * u.length ∧ IT (L o) n i (L t) l := by
  have hcount := it_count h
  obtain ⟨a, b, rfl, hv, hp⟩ := h
  rw [List.length_append] at hu
  obtain ⟨v, hv', hvz⟩ := value_total ⟨#[]⟩ hv (by omega)
  rw [B_L] at hv'
  obtain ⟨f1, f2, f3⟩ := pt_fine 4000 (by omega) hp (by omega) (fun q hq => by cases hq) (by unfold Dist; simp)
  have c0 : costs [] = 0 := rfl
  have z0 : (⟨#[]⟩ : ByteArray).size = 0 := rfl
  obtain ⟨o, ho, hoz⟩ := tail_total l [] ⟨#[]⟩ f1 f2 (fun q _ k => by cases k) (by omega)
  obtain ⟨u2, g1, g2⟩ := tail_back l [] ⟨#[]⟩ o [] ho (fun q hq => by cases hq)
  rw [L_nil, List.nil_append] at g1
  rw [List.nil_append] at g2
  refine ⟨v ++ o, ?_, ?_, ?_⟩
  · unfold sfitem_Text.f sfitem_Tail.f
    rw [hv']
    simp only [Option.bind_some]
    rw [if_pos (by simp only [List.length_append] at hcount; omega), ho]
    simp only [Option.bind_some]
    rw [if_pos trivial, if_pos trivial, if_pos (by omega)]
  · rw [ByteArray.size_append, List.length_append]; omega
  · rw [L_app]
    exact ⟨L v, L o, rfl, value_back _ _ _ _ _ hv', by rw [g1]; exact g2⟩
end Go.Proofs.YtbbaokjkmcfceaaDoor.Pl
