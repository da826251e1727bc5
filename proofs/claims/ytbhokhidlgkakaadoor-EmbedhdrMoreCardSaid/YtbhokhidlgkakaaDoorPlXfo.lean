/- Frame options of a short head. -/
import Derived.Test.YtbhokhidlgkakaaDoorPlHParts
namespace Go.Proofs.YtbhokhidlgkakaaDoor.Pl
set_option linter.unusedVariables false
set_option linter.unusedSimpArgs false
open Go.RowKit Go.Proofs.YtbhokhidlgkakaaDoor.Q Go.Proofs.YtbhokhidlgkakaaDoorW.PrintWords Go.Proofs.YtbhokhidlgkakaaDoorW.PrintLast

def isIn (ws : List ByteArray) (s : ByteArray) : Bool := ws.any (fun y => decide (y = s))
theorem isIn_iff (ws : List ByteArray) (s : ByteArray) : isIn ws s = true ↔ s ∈ ws := by
  unfold isIn
  rw [List.any_eq_true]
  constructor
  · rintro ⟨x, hx, h⟩
    rw [decide_eq_true_eq] at h
    exact h ▸ hx
  · intro h
    exact ⟨s, h, by simp⟩
theorem dedup_snoc (ws : List ByteArray) (x : ByteArray) : dedup (ws ++ [x]) = if isIn (dedup ws) x = true then dedup ws else dedup ws ++ [x] := by
  unfold dedup isIn
  rw [List.foldl_append]
  rfl
theorem dedup_mem (s : ByteArray) : ∀ r : List ByteArray, s ∈ dedup r.reverse ↔ s ∈ r.reverse := by
  intro r
  induction r with
  | nil => exact Iff.rfl
  | cons x r ih =>
    rw [List.reverse_cons, dedup_snoc, List.mem_append, List.mem_singleton, ← ih]
    split
    · rename_i h
      rw [isIn_iff] at h
      constructor
      · exact fun hs => .inl hs
      · rintro (hs | rfl)
        · exact hs
        · exact h
    · rw [List.mem_append, List.mem_singleton]
theorem mem_dedup (s : ByteArray) (ws : List ByteArray) : s ∈ dedup ws ↔ s ∈ ws := by
  have := dedup_mem s ws.reverse
  rwa [List.reverse_reverse] at this
theorem isIn_dedup (s : ByteArray) (ws : List ByteArray) : isIn (dedup ws) s = isIn ws s := by
  rw [Bool.eq_iff_iff, isIn_iff, isIn_iff, mem_dedup]
theorem dedup_len (ws : List ByteArray) : (dedup ws).length ≤ ws.length := by
  suffices h : ∀ r : List ByteArray, (dedup r.reverse).length ≤ r.length by
    have := h ws.reverse
    rwa [List.reverse_reverse, List.length_reverse] at this
  intro r
  induction r with
  | nil => exact Nat.le_refl _
  | cons x r ih =>
    rw [List.reverse_cons, dedup_snoc]
    split
    · simp only [List.length_cons]; omega
    · simp only [List.length_append, List.length_cons, List.length_nil]; omega
/-- No text twice. -/
theorem dedup_nodup : ∀ r : List ByteArray, (dedup r.reverse).Pairwise (fun a b => a ≠ b) := by
  intro r
  induction r with
  | nil => exact List.Pairwise.nil
  | cons x r ih =>
    rw [List.reverse_cons, dedup_snoc]
    split
    · exact ih
    · rename_i h
      rw [List.pairwise_append]
      refine ⟨ih, List.pairwise_singleton _ _, fun a ha b hb => ?_⟩
      rw [List.mem_singleton] at hb
      subst hb
      rintro rfl
      exact h ((isIn_iff _ _).2 ha)
theorem dedup_le1 (ws : List ByteArray) : (dedup ws).length ≤ 1 ↔ ∀ a ∈ ws, ∀ b ∈ ws, a = b := by
  have hn := dedup_nodup ws.reverse
  rw [List.reverse_reverse] at hn
  constructor
  · intro h a ha b hb
    rw [← mem_dedup] at ha hb
    match hd : dedup ws, h, ha, hb with
    | [], _, ha, _ => cases ha
    | [x], _, ha, hb => rw [List.mem_singleton] at ha hb; rw [ha, hb]
  · intro h
    match hd : dedup ws with
    | [] => simp
    | [x] => simp
    | x :: y :: l =>
      exfalso
      rw [hd] at hn
      have hx : x ∈ ws := (mem_dedup x ws).1 (by rw [hd]; simp)
      have hy : y ∈ ws := (mem_dedup y ws).1 (by rw [hd]; simp)
      exact (List.pairwise_cons.1 hn).1 y (by simp) (h x hx y hy)
theorem xfoOf_eq (ws : List ByteArray) : xfoOf ws = if isIn ws wSame = true ∧ (dedup ws).length ≤ 1 then 2 else if isIn ws wAll = true ∧ (dedup ws).length ≤ 1 then 3 else if (isIn ws wSame || isIn ws wAll || isIn ws wDeny) = true then 1 else 0 := rfl
theorem xfoOf_set {ws ws' : List ByteArray} (h : ∀ s, s ∈ ws ↔ s ∈ ws') : xfoOf ws = xfoOf ws' := by
  have e : ∀ s, isIn ws s = isIn ws' s := fun s => by rw [Bool.eq_iff_iff, isIn_iff, isIn_iff, h]
  have e1 : ((dedup ws).length ≤ 1) = ((dedup ws').length ≤ 1) := propext (by
    rw [dedup_le1, dedup_le1]
    exact ⟨fun hh a ha b hb => hh a ((h a).2 ha) b ((h b).2 hb), fun hh a ha b hb => hh a ((h a).1 ha) b ((h b).1 hb)⟩)
  rw [xfoOf_eq, xfoOf_eq]
  simp only [e, e1]
theorem xfo_f {l : List S28} {n m : Nat} (h : Small l n m) (hn : n ≤ 1000) (hm : m ≤ 100000) : embedhdr_Xfo.f l = some (xfoOf ((partsOf l xfoName).map lowBA)) := by
  unfold embedhdr_Xfo.f
  rw [parts_f h hn (by omega) xfoName (by decide)]
  simp only [Option.bind_some]
  have h1 := partsOf_len h xfoName
  have h2 : n * (m + 1) ≤ 1000 * 100001 := Nat.mul_le_mul hn (by omega)
  refine if_pos ⟨?_, by omega⟩
  rw [List.all_eq_true]
  intro p hp
  have := partsOf_small h xfoName p hp
  simp only [decide_eq_true_eq]
  omega
theorem has_l0 (l : List ByteArray) (s : ByteArray) (hl : l.length ≤ 4611686018427387904) : ∀ (d i : Nat), l.length - i = d → i ≤ l.length → Evn (fun k => glacisref09_Has.l0 k l s (i : Int)) (isIn (l.drop i) s) := by
  intro d
  induction d with
  | zero =>
    intro i hd hi
    obtain rfl : i = l.length := by omega
    refine Evn.succ ?_
    simp only [glacisref09_Has.l0]
    refine Evn.iff_neg (by omega) ?_
    rw [List.drop_length]
    exact Evn.some _
  | succ d ih =>
    intro i hd hi
    have hlt : i < l.length := by omega
    refine Evn.succ ?_
    simp only [glacisref09_Has.l0]
    refine Evn.iff_pos (by omega) (Evn.iff_pos (by omega) ?_)
    rw [rd_str l i hlt, List.drop_eq_getElem_cons hlt]
    have hih := ih (i + 1) (by omega) (by omega)
    generalize l[i] = x
    by_cases hx : x = s
    · refine Evn.iff_pos ((toList_iff _ _).2 hx) ?_
      have : isIn (x :: l.drop (i + 1)) s = true := (isIn_iff _ _).2 (by rw [hx]; simp)
      rw [this]
      exact Evn.some _
    · refine Evn.iff_neg (fun e => hx ((toList_iff _ _).1 e)) ?_
      have : isIn (x :: l.drop (i + 1)) s = isIn (l.drop (i + 1)) s := by
        unfold isIn
        rw [List.any_cons]
        simp [hx]
      rw [this, wr64 (by omega) (by omega), show ((i : Int) + 1) = ((i + 1 : Nat) : Int) by omega]
      exact hih
theorem has (l : List ByteArray) (s : ByteArray) (hl : l.length ≤ 4611686018427387904) : Evn (fun k => glacisref09_Has.f k l s) (isIn l s) := by
  unfold glacisref09_Has.f
  exact has_l0 l s hl _ 0 rfl (by omega)
/-- The document's last word on the words that it found. -/
def lastWord (n : Nat) (deny same all : Bool) : Int := if 1 < n ∧ (deny || same || all) = true then 1 else if n = 1 then (if deny = true then 1 else if same = true then 2 else if all = true then 3 else 0) else 0
theorem lastWord_eq (ws : List ByteArray) : lastWord (dedup ws).length (isIn ws wDeny) (isIn ws wSame) (isIn ws wAll) = xfoOf ws := by
  rw [xfoOf_eq]
  have h0 : (dedup ws).length = 0 → ∀ s, isIn ws s = false := by
    intro h s
    rw [← isIn_dedup, List.length_eq_zero_iff.1 h]
    rfl
  have h1 : (dedup ws).length ≤ 1 → ∀ s t, s ≠ t → isIn ws s = true → isIn ws t = false := by
    intro h s t hst hs
    rw [Bool.eq_false_iff]
    intro ht
    exact hst ((dedup_le1 ws).1 h s ((isIn_iff _ _).1 hs) t ((isIn_iff _ _).1 ht))
  have a1 := fun h => h1 h wSame wAll (by decide)
  have a2 := fun h => h1 h wSame wDeny (by decide)
  have a3 := fun h => h1 h wAll wDeny (by decide)
  have b1 := fun h => h0 h wSame
  have b2 := fun h => h0 h wAll
  have b3 := fun h => h0 h wDeny
  clear h0 h1
  generalize (dedup ws).length = n at *
  generalize isIn ws wSame = x at *
  generalize isIn ws wAll = y at *
  generalize isIn ws wDeny = z at *
  unfold lastWord
  by_cases hn : n ≤ 1
  · by_cases hz : n = 0
    · rw [b1 hz, b2 hz, b3 hz]
      simp [hz]
    · have hn1 : n = 1 := by omega
      subst hn1
      cases x <;> cases y <;> cases z <;> simp_all
  · have hn1 : 1 < n := by omega
    have hn2 : ¬ n = 1 := by omega
    cases x <;> cases y <;> cases z <;> simp [hn, hn1, hn2]
theorem ref_xfo_l0 (ps : List ByteArray) (hp : ∀ p ∈ ps, p.size ≤ 281474976710656) (hl : ps.length ≤ 4398046511000) : ∀ (d i : Nat), ps.length - i = d → i ≤ ps.length →
    Evn (fun k => glacisref09_Xfo.l0 k ps (dedup ((ps.take i).map lowBA)) (i : Int)) (xfoOf (ps.map lowBA)) := by
  intro d
  induction d with
  | zero =>
    intro i hd hi
    obtain rfl : i = ps.length := by omega
    rw [List.take_length]
    have hdl := dedup_len (ps.map lowBA)
    rw [List.length_map] at hdl
    have hlw := lastWord_eq (ps.map lowBA)
    rw [← isIn_dedup wDeny, ← isIn_dedup wSame, ← isIn_dedup wAll] at hlw
    generalize dedup (ps.map lowBA) = ws at *
    refine Evn.succ ?_
    simp only [glacisref09_Xfo.l0]
    refine Evn.iff_neg (by omega) ?_
    refine Evn.bind (has ws wDeny (by omega)) (Evn.bind (has ws wSame (by omega)) (Evn.bind (has ws wAll (by omega)) ?_))
    rw [← hlw]
    generalize isIn ws wDeny = z
    generalize isIn ws wSame = x
    generalize isIn ws wAll = y
    have fin : ∀ b : Bool, Evn (fun k => glacisref09_Xfo.j1 k ws z x y b) (if b = true then 1 else if ws.length = 1 then (if z = true then 1 else if x = true then 2 else if y = true then 3 else 0) else 0) := by
      intro b
      refine Evn.succ ?_
      simp only [glacisref09_Xfo.j1]
      refine Evn.ret ?_
      have e : ((ws.length : Int) = 1) = (ws.length = 1) := propext (by omega)
      simp only [e]
      cases b <;> cases x <;> cases y <;> cases z <;> simp <;> split <;> rfl
    unfold lastWord
    by_cases hn : 1 < ws.length
    · refine Evn.iff_pos (by omega) ?_
      cases z with
      | true =>
        refine Evn.iff_pos rfl ?_
        have := fin true
        simpa [hn] using this
      | false =>
        refine Evn.iff_neg (by simp) ?_
        cases x with
        | true =>
          refine Evn.iff_pos rfl ?_
          have := fin true
          simpa [hn] using this
        | false =>
          refine Evn.iff_neg (by simp) ?_
          have := fin y
          cases y <;> simpa [hn] using this
    · refine Evn.iff_neg (by omega) ?_
      have := fin false
      simpa [hn] using this
  | succ d ih =>
    intro i hd hi
    have hlt : i < ps.length := by omega
    have hih := ih (i + 1) (by omega) (by omega)
    rw [List.take_succ_eq_append_getElem hlt, List.map_append] at hih
    have hdl := dedup_len ((ps.take i).map lowBA)
    rw [List.length_map, List.length_take] at hdl
    refine Evn.succ ?_
    simp only [glacisref09_Xfo.l0]
    refine Evn.iff_pos (by omega) (Evn.iff_pos (by omega) ?_)
    rw [rd_str ps i hlt]
    have hx := hp ps[i] (List.getElem_mem hlt)
    generalize ps[i] = x at *
    rw [ref_lower x hx]
    simp only [Option.bind_some]
    rw [show [x].map lowBA = [lowBA x] from rfl, dedup_snoc] at hih
    generalize dedup ((ps.take i).map lowBA) = ws at *
    refine Evn.bind (has ws (lowBA x) (by omega)) ?_
    by_cases hb : isIn ws (lowBA x) = true
    · refine Evn.iff_pos hb ?_
      rw [if_pos hb] at hih
      rw [wr64 (by omega) (by omega), show ((i : Int) + 1) = ((i + 1 : Nat) : Int) by omega]
      exact hih
    · refine Evn.iff_neg hb (Evn.iff_pos (by omega) ?_)
      rw [if_neg hb] at hih
      rw [wr64 (by omega) (by omega), show ((i : Int) + 1) = ((i + 1 : Nat) : Int) by omega]
      exact hih
theorem ref_xfo {l : List S28} {n m : Nat} (h : Small l n m) (hn : n ≤ 1000) (hm : m ≤ 100000) : Evn (fun k => glacisref09_Xfo.f k l) (xfoOf ((partsOf l xfoName).map lowBA)) := by
  unfold glacisref09_Xfo.f
  refine Evn.bind (ref_Parts h hn (by omega) xfoName (by decide)) ?_
  have h1 := partsOf_len h xfoName
  have h2 : n * (m + 1) ≤ 1000 * 100001 := Nat.mul_le_mul hn (by omega)
  exact ref_xfo_l0 _ (fun p hp => by have := partsOf_small h xfoName p hp; omega) (by omega) _ 0 rfl (by omega)
end Go.Proofs.YtbhokhidlgkakaaDoor.Pl
