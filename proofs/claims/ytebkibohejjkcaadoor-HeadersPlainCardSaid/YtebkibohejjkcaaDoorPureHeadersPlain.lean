/- Without quotes parts are what stands between commas; no part has blanks at its ends: over the printed functions. -/
import Derived.Test.YtebkibohejjkcaaDoorPlFew07
import Derived.Test.YtebkibohejjkcaaDoorPlHComma
import Derived.Test.YtebkibohejjkcaaDoorPlHIn
import Derived.Test.YtebkibohejjkcaaDoorPlHTwice
namespace Go.Proofs.YtebkibohejjkcaaDoor.Pure
set_option linter.unusedVariables false
set_option linter.unusedSimpArgs false
open Go.RowKit Go.Proofs.YtebkibohejjkcaaDoor.Q Go.Proofs.YtebkibohejjkcaaDoor.Pl Go.Proofs.YtebkibohejjkcaaDoorW.PrintWords Go.Proofs.YtebkibohejjkcaaDoorW.PrintLast
def plainOf (v : ByteArray) : List ByteArray := (cutOf (fun x => x == 44) true v).map trimBA
def quoteIn (v : ByteArray) : Bool := inB 34 (dl v)
theorem plain_len (v : ByteArray) : (plainOf v).length ≤ v.size + 1 := by
  unfold plainOf
  rw [List.length_map, cutOf_eq, List.length_map]
  have h := parts_split (fun x => x == 44) v
  have h2 : (cutOf (fun x => x == 44) true v).length = (splitL isComma (dl v)).length := by rw [cutOf_eq, List.length_map]
  have h3 := keepParts_len true ((cutSt (fun x => x == 44) v v.size).1 ++ [v.extract (cutSt (fun x => x == 44) v v.size).2 v.size])
  have h4 := cutSt_len (fun x => x == 44) v v.size
  have h5 : (cutOf (fun x => x == 44) true v).length ≤ v.size + 1 := by
    unfold cutOf
    simp only [List.length_append, List.length_singleton] at h3
    omega
  omega
theorem cparts_le (v : ByteArray) : (cparts v).length ≤ (plainOf v).length := by
  have := cparts_len_split _ v (Nat.lt_succ_self _)
  unfold plainOf
  rw [List.length_map, cutOf_eq, List.length_map]
  exact this
theorem plain_eq (v : ByteArray) (h : quoteIn v = false) : cparts v = plainOf v := by
  unfold plainOf
  rw [cutOf_eq]
  refine cparts_plain _ v (Nat.lt_succ_self _) fun j hj hb => ?_
  obtain ⟨b, hb1, hb2⟩ := bt_dl v j hj
  have : quoteIn v = true := by
    unfold quoteIn inB
    rw [List.any_eq_true]
    refine ⟨b, List.mem_of_getElem? hb1, ?_⟩
    rw [beq_iff_eq, ← hb2]
    exact hb
  rw [h] at this
  cases this
theorem parts_trimmed : ∀ (d : Nat) (v : ByteArray), v.size < d → ∀ p ∈ cparts v, trimBA p = p := by
  intro d
  induction d with
  | zero => intro v h; omega
  | succ d ih =>
    intro v h p hp
    rw [cparts_eq] at hp
    obtain ⟨h1, h2⟩ := com_range v 0 false
    split at hp
    · rename_i hc
      have hc' : 0 ≤ com v 0 false := hc
      rcases List.mem_cons.1 hp with rfl | hp
      · exact trim_twice _
      · exact ih _ (by simp only [ByteArray.size_extract]; omega) p hp
    · rw [List.mem_singleton] at hp
      subst hp
      exact trim_twice _
theorem plain_l2 (vs ps pl : List ByteArray) (q : Bool) (hps : ∀ p ∈ ps, trimBA p = p ∧ p.size ≤ 281474976710656) (hlen : ps.length ≤ 4398046511000) (h1 : vs.length ≤ ps.length) (h2 : ps.length ≤ pl.length) (hq : q = true ∨ ps = pl) :
    ∀ (d i : Nat), ps.length - i = d → i ≤ ps.length → Evn (fun k => glacislaw07_HeadersPlain.l2 k true vs ps pl q (i : Int)) true := by
  intro d
  induction d with
  | zero =>
    intro i hd hi
    obtain rfl : i = ps.length := by omega
    refine Evn.succ ?_
    simp only [glacislaw07_HeadersPlain.l2]
    refine Evn.iff_neg (by omega) (Evn.bind (texts ps pl (by omega)) ?_)
    refine Evn.iff_pos (by simp) (Evn.iff_pos (by omega) (Evn.iff_pos (by omega) ?_))
    rcases hq with rfl | rfl
    · exact Evn.iff_pos (by first | rfl | trivial) (Evn.some _)
    · rw [textsEq_refl]
      cases q
      · exact Evn.iff_neg (by simp) (Evn.some _)
      · exact Evn.iff_pos (by first | rfl | trivial) (Evn.some _)
  | succ d ih =>
    intro i hd hi
    have hlt : i < ps.length := by omega
    refine Evn.succ ?_
    simp only [glacislaw07_HeadersPlain.l2]
    refine Evn.iff_pos (by omega) (Evn.iff_pos (by omega) ?_)
    rw [rd_str ps i hlt]
    obtain ⟨t1, t2⟩ := hps ps[i] (List.getElem_mem hlt)
    rw [trim_f _ t2, t1]
    simp only [Option.bind_some]
    refine Evn.iff_pos (by first | rfl | trivial) ?_
    rw [wr64 (by omega) (by omega), show ((i : Int) + 1) = ((i + 1 : Nat) : Int) by omega]
    exact ih (i + 1) (by omega) (by omega)
theorem plain_l1 (vs ps : List ByteArray) (q : Bool) (x11 : Int) (ss : List ByteArray) (hss : ∀ s ∈ ss, s.size ≤ 281474976710656) (acc : List ByteArray) (hl : acc.length + ss.length ≤ 4398046511000)
    (hend : Evn (fun k => glacislaw07_HeadersPlain.l0 k true vs ps (acc ++ ss.map trimBA) q (wrap64 (x11 + 1))) true) : ∀ (d i : Nat), ss.length - i = d → i ≤ ss.length →
    Evn (fun k => glacislaw07_HeadersPlain.l1 k true vs ps (acc ++ (ss.take i).map trimBA) q x11 ss (i : Int)) true := by
  intro d
  induction d with
  | zero =>
    intro i hd hi
    obtain rfl : i = ss.length := by omega
    refine Evn.succ ?_
    simp only [glacislaw07_HeadersPlain.l1]
    refine Evn.iff_neg (by omega) ?_
    rw [List.take_length]
    exact hend
  | succ d ih =>
    intro i hd hi
    have hlt : i < ss.length := by omega
    have hih := ih (i + 1) (by omega) (by omega)
    rw [List.take_succ_eq_append_getElem hlt, List.map_append, ← List.append_assoc] at hih
    refine Evn.succ ?_
    simp only [glacislaw07_HeadersPlain.l1]
    refine Evn.iff_pos (by omega) (Evn.iff_pos (by omega) ?_)
    rw [rd_str ss i hlt]
    rw [trim_f _ (hss ss[i] (List.getElem_mem hlt))]
    simp only [Option.bind_some]
    refine Evn.iff_pos (by simp only [List.length_append, List.length_map, List.length_take]; omega) ?_
    rw [wr64 (by omega) (by omega), show ((i : Int) + 1) = ((i + 1 : Nat) : Int) by omega]
    exact hih
theorem plain_l0 (vs ps : List ByteArray) (m : Nat) (hm : m ≤ 100000) (hv : ∀ v ∈ vs, v.size ≤ m) (hvl : vs.length ≤ 1000)
    (hend : ∀ q, q = vs.any quoteIn → Evn (fun k => glacislaw07_HeadersPlain.l2 k true vs ps (vs.flatMap plainOf) q 0) true) : ∀ (d i : Nat), vs.length - i = d → i ≤ vs.length →
    Evn (fun k => glacislaw07_HeadersPlain.l0 k true vs ps ((vs.take i).flatMap plainOf) ((vs.take i).any quoteIn) (i : Int)) true := by
  intro d
  induction d with
  | zero =>
    intro i hd hi
    obtain rfl : i = vs.length := by omega
    refine Evn.succ ?_
    simp only [glacislaw07_HeadersPlain.l0]
    refine Evn.iff_neg (by omega) ?_
    rw [List.take_length]
    exact hend _ rfl
  | succ d ih =>
    intro i hd hi
    have hlt : i < vs.length := by omega
    have hih := ih (i + 1) (by omega) (by omega)
    rw [List.take_succ_eq_append_getElem hlt, List.flatMap_append, List.any_append] at hih
    have hsum : ((vs.take i).flatMap plainOf).length ≤ 1000 * 100001 := by
      have : ∀ l : List ByteArray, (∀ v ∈ l, v.size ≤ m) → (l.flatMap plainOf).length ≤ l.length * (m + 1) := by
        intro l
        induction l with
        | nil => intro _; simp
        | cons a l ihl =>
          intro ha
          have h1 := ihl (fun x hx => ha x (List.mem_cons_of_mem _ hx))
          have h2 := plain_len a
          have h3 := ha a (by simp)
          rw [List.flatMap_cons, List.length_append, List.length_cons, Nat.succ_mul]
          omega
      have h1 := this (vs.take i) (fun v hv' => hv v (List.mem_of_mem_take hv'))
      have h2 : (vs.take i).length * (m + 1) ≤ 1000 * 100001 := Nat.mul_le_mul (by rw [List.length_take]; omega) (by omega)
      omega
    refine Evn.succ ?_
    simp only [glacislaw07_HeadersPlain.l0]
    refine Evn.iff_pos (by omega) (Evn.iff_pos (by omega) ?_)
    rw [rd_str vs i hlt]
    have hx := hv vs[i] (List.getElem_mem hlt)
    have hrd := rd_str vs i hlt
    generalize hxe : vs[i] = x at *
    generalize (vs.take i).any quoteIn = q at *
    generalize (vs.take i).flatMap plainOf = acc at *
    refine Evn.bind (in_f 34 x (by omega)) ?_
    have j2 : ∀ q', q' = (q || quoteIn x) → Evn (fun k => glacislaw07_HeadersPlain.j2 k true vs ps acc q' (i : Int)) true := by
      intro q' hq'
      refine Evn.succ ?_
      simp only [glacislaw07_HeadersPlain.j2]
      refine Evn.iff_pos (by omega) (Evn.iff_pos (by omega) ?_)
      rw [hrd, show octet_Split.f x 44 = some (cutOf (fun c => c == 44) true x) from if_pos (by omega)]
      simp only [Option.bind_some]
      have hpl := plain_len x
      unfold plainOf at hpl
      rw [List.length_map] at hpl
      have := plain_l1 vs ps q' (i : Int) (cutOf (fun c => c == 44) true x) (fun s hs => by
        have := part_size (fun c => c == 44) x s (by unfold cutOf at hs; rwa [keepParts_true] at hs)
        omega) acc (by omega) (by
          rw [wr64 (by omega) (by omega), show ((i : Int) + 1) = ((i + 1 : Nat) : Int) by omega, hq']
          simpa [plainOf] using hih) _ 0 rfl (by omega)
      simpa using this
    cases q with
    | true => exact Evn.iff_pos (by first | rfl | trivial) (j2 true (by simp))
    | false => exact Evn.iff_neg (by simp) (j2 _ (by simp [quoteIn]))
theorem HeadersPlain : ∀ (a0 : List S24) (a1 : ByteArray), a0.length * 32 ≤ 140737488351232 → (∀ x ∈ a0, x.f0.size ≤ 140737488351232 ∧ x.f1.size ≤ 140737488351232) → a1.size ≤ 140737488351232 → ∃ k, glacislaw07_HeadersPlain.f k a0 a1 = some true := by
  intro l name _ _ _
  refine Evn.ex (g := fun k => glacislaw07_HeadersPlain.f k l name) ?_
  unfold glacislaw07_HeadersPlain.f
  refine Evn.bind awake07 (Evn.bind (fewa l) ?_)
  have out : Evn (fun k => glacislaw07_HeadersPlain.j0 k l name true true) true := by
    refine Evn.succ ?_
    simp only [glacislaw07_HeadersPlain.j0]
    exact Evn.iff_pos (by simp) (Evn.some _)
  by_cases hf : fewA l = true
  · refine Evn.iff_pos hf ?_
    have hs := small_fewA hf
    by_cases h1 : name.size ≤ 1000
    · rw [show decide ((name.size : Int) > 1000) = false by simp; omega]
      refine Evn.succ ?_
      simp only [glacislaw07_HeadersPlain.j0]
      refine Evn.iff_neg (by simp) ?_
      rw [values_f hs (by omega) (by omega) name (by omega), parts_f hs (by omega) (by omega) name (by omega)]
      simp only [Option.bind_some]
      have hvl := valsOf_len l name
      have hll := hs.1
      have hpl := partsOf_len hs name
      have hps : ∀ p ∈ partsOf l name, trimBA p = p ∧ p.size ≤ 281474976710656 := by
        intro p hp
        have h2 := partsOf_small hs name p hp
        unfold partsOf at hp
        obtain ⟨v, _, hp⟩ := List.mem_flatMap.1 hp
        exact ⟨parts_trimmed _ v (Nat.lt_succ_self _) p hp, by omega⟩
      have c1 : ∀ vs : List ByteArray, vs.length ≤ (vs.flatMap cparts).length := by
        intro vs
        induction vs with
        | nil => simp
        | cons v vs ih =>
          have := cparts_pos v
          rw [List.flatMap_cons, List.length_append, List.length_cons]
          omega
      have c2 : ∀ vs : List ByteArray, (vs.flatMap cparts).length ≤ (vs.flatMap plainOf).length := by
        intro vs
        induction vs with
        | nil => simp
        | cons v vs ih =>
          have := cparts_le v
          rw [List.flatMap_cons, List.length_append, List.flatMap_cons, List.length_append]
          omega
      have c3 : ∀ vs : List ByteArray, vs.any quoteIn = true ∨ vs.flatMap cparts = vs.flatMap plainOf := by
        intro vs
        induction vs with
        | nil => exact .inr rfl
        | cons v vs ih =>
          by_cases hv : quoteIn v = true
          · exact .inl (by simp [hv])
          · rcases ih with ih | ih
            · exact .inl (by simp [ih])
            · exact .inr (by rw [List.flatMap_cons, List.flatMap_cons, ih, plain_eq v (by simpa using hv)])
      have := plain_l0 (valsOf l name) (partsOf l name) 5000 (by omega) (fun v hv => vals_small hs name v hv) (by omega) (fun q hq => by
        refine plain_l2 _ _ _ q hps (by omega) (c1 _) (c2 _) ?_ _ 0 rfl (by omega)
        rcases c3 (valsOf l name) with h | h
        · exact .inl (hq.trans h)
        · exact .inr h) _ 0 rfl (by omega)
      simpa using this
    · rw [show decide ((name.size : Int) > 1000) = true by simp; omega]
      exact out
  · exact Evn.iff_neg hf out
end Go.Proofs.YtebkibohejjkcaaDoor.Pure
