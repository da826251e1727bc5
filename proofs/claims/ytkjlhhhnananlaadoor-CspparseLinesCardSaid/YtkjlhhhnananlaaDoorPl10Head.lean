/- Chapter 10 in plain words: the policies of a head. -/
import Derived.Test.YtkjlhhhnananlaaDoorPl10
import Derived.Test.YtkjlhhhnananlaaDoorPl10HdrRef
namespace Go.Proofs.YtkjlhhhnananlaaDoor.Pl
open Go.RowKit Go.Proofs.YtkjlhhhnananlaaDoor.Q Go.Proofs.YtkjlhhhnananlaaDoorW.PrintWords Go.Proofs.YtkjlhhhnananlaaDoorW.PrintLast
set_option linter.unusedVariables false
set_option linter.unusedSimpArgs false
def polS (t : Bool × List ByteArray × Bool × List ByteArray) : S26 := ⟨t.1, t.2.1, t.2.2.1, t.2.2.2⟩
def onesL (ps : List ByteArray) : List S26 := ps.flatMap (fun p => if ((polOf p).1 || (polOf p).2.2.1) = true then [polS (polOf p)] else [])
def commaParts (v : ByteArray) : List ByteArray := cutOf (fun x => x == 44) true v
def headL (vs : List ByteArray) : List S26 := vs.flatMap (fun v => onesL (commaParts v))
theorem onesL_len (ps : List ByteArray) : (onesL ps).length ≤ ps.length := by
  induction ps with
  | nil => exact Nat.le_refl _
  | cons p ps ih =>
    unfold onesL at ih ⊢
    rw [List.flatMap_cons, List.length_append, List.length_cons]
    split <;> simp only [List.length_cons, List.length_nil] <;> omega
theorem headL_len (m : Nat) (vs : List ByteArray) (hv : ∀ v ∈ vs, v.size ≤ m) : (headL vs).length ≤ vs.length * (m + 1) := by
  induction vs with
  | nil => exact Nat.zero_le _
  | cons v vs ih =>
    have ih := ih (fun x hx => hv x (List.mem_cons_of_mem _ hx))
    unfold headL at ih ⊢
    rw [List.flatMap_cons, List.length_append, List.length_cons, Nat.succ_mul]
    have h1 := onesL_len (commaParts v)
    have h2 : (commaParts v).length ≤ v.size + 1 := cut_len true _ v
    have h3 := hv v (List.mem_cons_self ..)
    omega
theorem ones_f : ∀ (ps : List ByteArray) (out : List S26), (∀ p ∈ ps, p.size ≤ 8796093022200) → out.length + ps.length ≤ 2199023255551 → cspparse_Head.ones ps out = some (out ++ onesL ps)
  | [], out, _, _ => by simp [cspparse_Head.ones, onesL]
  | p :: ps, out, hp, hl => by
    have hp' := fun x hx => hp x (List.mem_cons_of_mem _ hx)
    simp only [List.length_cons] at hl
    unfold cspparse_Head.ones
    rw [one_f p (hp p (List.mem_cons_self ..))]
    simp only [Option.bind_some]
    unfold onesL
    rw [List.flatMap_cons]
    split
    · rw [if_pos (by omega), ones_f ps _ hp' (by simp; omega)]
      simp [onesL, polS, cspparse_Head.pol]
    · rw [ones_f ps _ hp' (by omega)]
      simp [onesL]
theorem vals_f (m : Nat) (hm : m ≤ 8796093022200) : ∀ (vs : List ByteArray) (out : List S26), (∀ v ∈ vs, v.size ≤ m) → out.length + vs.length * (m + 1) ≤ 2199023255551 → cspparse_Head.vals vs out = some (out ++ headL vs)
  | [], out, _, _ => by simp [cspparse_Head.vals, headL]
  | v :: vs, out, hv, hl => by
    have hv' := fun x hx => hv x (List.mem_cons_of_mem _ hx)
    have h1 := hv v (List.mem_cons_self ..)
    rw [List.length_cons, Nat.succ_mul] at hl
    unfold cspparse_Head.vals
    have h2 : (commaParts v).length ≤ v.size + 1 := cut_len true _ v
    have h3 := onesL_len (commaParts v)
    rw [show octet_Split.f v 44 = some (commaParts v) from if_pos (by omega)]
    simp only [Option.bind_some]
    rw [ones_f (commaParts v) out (fun p hp => Nat.le_trans (cut_mem_size true _ v p hp) (by omega)) (by omega)]
    simp only [Option.bind_some]
    rw [vals_f m hm vs _ hv' (by rw [List.length_append]; omega)]
    simp [headL]
theorem ref_ones : ∀ (ps : List ByteArray) (out : List S26), (∀ p ∈ ps, p.size ≤ 8796093022200) → out.length + ps.length ≤ 2199023255551 → Evn (fun k => glacisref10_Head.ones k ps out) (out ++ onesL ps)
  | [], out, _, _ => Evn.ret (by simp [glacisref10_Head.ones, onesL])
  | p :: ps, out, hp, hl => by
    have hp' := fun x hx => hp x (List.mem_cons_of_mem _ hx)
    simp only [List.length_cons] at hl
    unfold glacisref10_Head.ones
    refine Evn.bind (ref_one p (hp p (List.mem_cons_self ..))) ?_
    unfold onesL
    rw [List.flatMap_cons]
    by_cases hc : ((polOf p).1 || (polOf p).2.2.1) = true
    · refine Evn.iff_pos hc (Evn.iff_pos (by omega) ?_)
      rw [if_pos hc]
      have := ref_ones ps (out ++ [polS (polOf p)]) hp' (by simp; omega)
      rw [List.append_assoc] at this
      exact this
    · refine Evn.iff_neg hc ?_
      rw [if_neg hc]
      exact ref_ones ps out hp' (by omega)
theorem ref_vals (m : Nat) (hm : m ≤ 8796093022200) : ∀ (vs : List ByteArray) (out : List S26), (∀ v ∈ vs, v.size ≤ m) → out.length + vs.length * (m + 1) ≤ 2199023255551 → Evn (fun k => glacisref10_Head.vals k vs out) (out ++ headL vs)
  | [], out, _, _ => Evn.ret (by simp [glacisref10_Head.vals, headL])
  | v :: vs, out, hv, hl => by
    have hv' := fun x hx => hv x (List.mem_cons_of_mem _ hx)
    have h1 := hv v (List.mem_cons_self ..)
    rw [List.length_cons, Nat.succ_mul] at hl
    unfold glacisref10_Head.vals
    have h2 : (commaParts v).length ≤ v.size + 1 := cut_len true _ v
    have h3 := onesL_len (commaParts v)
    refine Evn.bind (ref_split v 44 (by omega)) ?_
    refine Evn.bind (ref_ones (commaParts v) out (fun p hp => Nat.le_trans (cut_mem_size true _ v p hp) (by omega)) (by omega)) ?_
    have := ref_vals m hm vs (out ++ onesL (commaParts v)) hv' (by rw [List.length_append]; omega)
    unfold headL
    rw [List.flatMap_cons, ← List.append_assoc]
    exact this
def cspName : ByteArray := ⟨#[99, 111, 110, 116, 101, 110, 116, 45, 115, 101, 99, 117, 114, 105, 116, 121, 45, 112, 111, 108, 105, 99, 121]⟩
theorem vals_len (l : List S38) (name : ByteArray) : (valsOf l name).length ≤ l.length := by
  unfold valsOf
  rw [List.length_map]
  exact List.length_filter_le _ _
theorem head_f {l : List S38} {n m : Nat} (h : Small l n m) (hb : n * (m + 1) ≤ 2199023255551) (hn : n ≤ 4398046511000) (hm : m ≤ 8796093022200) : cspparse_Head.f l = some (headL (valsOf l cspName)) := by
  unfold cspparse_Head.f
  rw [show headers_Values.f l (⟨#[99, 111, 110, 116, 101, 110, 116, 45, 115, 101, 99, 117, 114, 105, 116, 121, 45, 112, 111, 108, 105, 99, 121]⟩ : ByteArray) = some (valsOf l cspName) from values_f h hn (by omega) cspName (by decide)]
  simp only [Option.bind_some]
  have := vals_f m hm (valsOf l cspName) [] (fun v hv => vals_small h _ v hv) (by
    have h1 := Nat.mul_le_mul_right (m + 1) (Nat.le_trans (vals_len l cspName) h.1)
    simp only [List.length_nil]; omega)
  simpa using this
theorem ref_head {l : List S38} {n m : Nat} (h : Small l n m) (hb : n * (m + 1) ≤ 2199023255551) (hn : n ≤ 4398046511000) (hm : m ≤ 8796093022200) : Evn (fun k => glacisref10_Head.f k l) (headL (valsOf l cspName)) := by
  unfold glacisref10_Head.f
  refine Evn.bind (ref_values h hn (by omega) cspName (by decide)) ?_
  have := ref_vals m hm (valsOf l cspName) [] (fun v hv => vals_small h _ v hv) (by
    have h1 := Nat.mul_le_mul_right (m + 1) (Nat.le_trans (vals_len l cspName) h.1)
    simp only [List.length_nil]; omega)
  simpa using this
theorem onesL_mem {ps : List ByteArray} {x : S26} (h : x ∈ onesL ps) : ∃ p ∈ ps, x = polS (polOf p) := by
  unfold onesL at h
  obtain ⟨p, hp, hx⟩ := List.mem_flatMap.1 h
  split at hx
  · exact ⟨p, hp, List.mem_singleton.1 hx⟩
  · cases hx
theorem headL_mem {m : Nat} {vs : List ByteArray} (hv : ∀ v ∈ vs, v.size ≤ m) {x : S26} (h : x ∈ headL vs) : x.f1.length ≤ m + 1 ∧ x.f3.length ≤ m + 1 := by
  unfold headL at h
  obtain ⟨v, hvm, hx⟩ := List.mem_flatMap.1 h
  obtain ⟨p, hp, rfl⟩ := onesL_mem hx
  have h1 := cut_mem_size true _ v p hp
  have h2 := hv v hvm
  exact ⟨Nat.le_trans (first_len ancName p) (by omega), Nat.le_trans (first_len boxName p) (by omega)⟩
theorem same_refl_l0 (a : List S26) (hl : a.length ≤ 4611686018427387904) (hx : ∀ x ∈ a, x.f1.length ≤ 4611686018427387904 ∧ x.f3.length ≤ 4611686018427387904) : ∀ (d i : Nat), a.length - i = d → i ≤ a.length →
    Evn (fun k => glacisref10_Same.l0 k a a i) true := by
  intro d
  induction d with
  | zero =>
    intro i hd hi
    refine Evn.succ ?_
    simp only [glacisref10_Same.l0]
    exact Evn.iff_neg (by omega) (Evn.ret rfl)
  | succ d ih =>
    intro i hd hi
    have h1 : i < a.length := by omega
    refine Evn.succ ?_
    simp only [glacisref10_Same.l0]
    have e1 : rd_T26 a (i : Int) = a[i] := by simp [rd_T26, List.getD_eq_getElem?_getD, List.getElem?_eq_getElem h1]
    rw [e1, wr64 (by omega) (by omega)]
    have hb := hx a[i] (List.getElem_mem h1)
    refine Evn.iff_pos (by omega) (Evn.iff_pos (by omega) (Evn.iff_pos (by omega) ?_))
    refine Evn.bind (same_one (a[i].f0, a[i].f1, a[i].f2, a[i].f3) (a[i].f0, a[i].f1, a[i].f2, a[i].f3) hb.1 hb.2) ?_
    rw [(samePol_iff _ _).2 rfl]
    exact Evn.iff_pos rfl (ih (i + 1) (by omega) (by omega))
theorem same_refl (a : List S26) (hl : a.length ≤ 4611686018427387904) (hx : ∀ x ∈ a, x.f1.length ≤ 4611686018427387904 ∧ x.f3.length ≤ 4611686018427387904) : Evn (fun k => glacisref10_Same.f k a a) true := by
  unfold glacisref10_Same.f
  exact Evn.iff_pos rfl (same_refl_l0 a hl hx _ 0 rfl (Nat.zero_le _))
end Go.Proofs.YtkjlhhhnananlaaDoor.Pl
