/- Chapter 8: a field's word, out of a head; heads of the same lines of a name; what is but reported. -/
import Derived.Test.YtciigmlibnpeeaaDoorQx3
import Derived.Test.YtciigmlibnpeeaaDoorQx4
import Derived.Test.YtciigmlibnpeeaaDoorQx5
import Derived.Test.YtciigmlibnpeeaaDoorQx6
import Derived.Test.YtciigmlibnpeeaaDoorQx11
import Derived.Test.YtciigmlibnpeeaaDoorPl05B
import Derived.Test.YtciigmlibnpeeaaDoorPlHdr
namespace Go.Proofs.YtciigmlibnpeeaaDoor.Pl
set_option linter.unusedVariables false
set_option linter.unusedSimpArgs false
open Go.RowKit Go.Proofs.YtciigmlibnpeeaaDoor.Q Go.Proofs.YtciigmlibnpeeaaDoor.Sf Go.Proofs.YtciigmlibnpeeaaDoorW.PrintWords Go.Proofs.YtciigmlibnpeeaaDoorW.PrintLast

theorem parse_all (s : ByteArray) (h : s.size ≤ 2199023255552) : ∃ y, sfitem_Parse.f s = some y := by
  unfold sfitem_Parse.f strings_Trim.f
  rw [if_pos ⟨rfl, by omega⟩]
  simp only [Option.bind_some]
  have hz : (trimSp s).size ≤ s.size := by
    have : L (trimSp s) = Lib.trimB (L s) 32 := by unfold trimSp L; simp
    rw [size_L, size_L, this]; exact trim_len _
  unfold sfitem_Next.f
  rw [if_pos (by omega)]
  cases rdNext (trimSp s) with
  | none => exact ⟨_, rfl⟩
  | some x =>
    obtain ⟨v, l, t⟩ := x
    simp only [Option.bind_some]
    rw [if_pos trivial]
    split
    · split
      · exact ⟨_, rfl⟩
      · exact ⟨_, rfl⟩
    · exact ⟨_, rfl⟩
theorem pt_cnt {u : List UInt8} {l l1 : List S52} (h : PT u l l1) : l1.length ≤ l.length + u.length := by
  induction h with
  | nil => simp
  | flag b k u l l1 hb hk h ih =>
    have := withP_len (B k) l ⟨B k, 6, 1, ⟨#[]⟩⟩
    simp only [List.length_cons, List.length_append]; omega
  | val b k w u n i t l l1 hb hk hv h ih =>
    have := withP_len (B k) l ⟨B k, n, i, B t⟩
    simp only [List.length_cons, List.length_append]; omega
theorem vt_tok {u : List UInt8} {n i : Int} {t : List UInt8} (h : VT u n i t) (hn : n = 4) : t = u := by
  cases h <;> first | rfl | cases hn
theorem read_size {s : ByteArray} {i : Int} {t : ByteArray} {ps : List S52} (h : sfitem_Parse.f s = some (4, i, t, ps, 0)) : t.size ≤ 4000 ∧ ps.length ≤ 4000 := by
  obtain ⟨u, ⟨a, b, rfl, hv, hp⟩, h2, h3⟩ := parse_inv h
  have h4 := vt_tok hv rfl
  have h5 := pt_cnt hp
  rw [List.length_append] at h2
  rw [size_L, h4]
  simp only [List.length_nil] at h5
  exact ⟨by omega, by omega⟩
/-- What a name's lines tell together. -/
def combOf (l : List S33) (name : ByteArray) : ByteArray := joinBA (valsOf l name) comSp
theorem readF_some {l : List S33} (h : Small l 1000 5000) (name : ByteArray) (hz : name.size ≤ 281474976710656) :
    ∃ p q, readF l name = some (p, q) ∧ p.size ≤ 4000 := by
  have hj := join_size (valsOf l name) comSp 5000 (fun x hx => vals_small h name x hx)
  have hl := valsOf_len l name
  have h1 := h.1
  have hb : (valsOf l name).length * (5000 + comSp.size) ≤ 1000 * 5002 := Nat.mul_le_mul (by omega) (Nat.le_refl _)
  obtain ⟨⟨kd, iv, tx, ps, e⟩, hp⟩ := parse_all (joinBA (valsOf l name) comSp) (by omega)
  unfold readF
  rw [combined_f h (by omega) (by omega) name hz]
  simp only [Option.bind_some]
  rw [hp]
  simp only [Option.bind_some]
  split
  · rename_i hc
    obtain ⟨-, h0, h4⟩ := hc
    subst h0 h4
    obtain ⟨z1, z2⟩ := read_size hp
    rw [if_pos (by omega)]
    exact ⟨_, _, rfl, z1⟩
  · exact ⟨_, _, rfl, by decide⟩
theorem readF_vals {l l' : List S33} (h : Small l 1000 5000) (h' : Small l' 1000 5000) (name : ByteArray) (hz : name.size ≤ 281474976710656) (e : valsOf l name = valsOf l' name) : readF l name = readF l' name := by
  unfold readF
  rw [combined_f h (by omega) (by omega) name hz, combined_f h' (by omega) (by omega) name hz, e]
theorem readF_nil {l : List S33} (h : Small l 1000 5000) (name : ByteArray) (hz : name.size ≤ 281474976710656) (e : valsOf l name = []) : readF l name = some (⟨#[]⟩, ⟨#[]⟩) := by
  unfold readF
  rw [combined_f h (by omega) (by omega) name hz, e]
  simp only [Option.bind_some]
  obtain ⟨⟨kd, iv, tx, ps, e⟩, hp⟩ := parse_all (joinBA [] comSp) (by rw [join_nil]; decide)
  rw [hp]
  simp only [Option.bind_some]
  rw [if_neg (by intro h; exact absurd h.1 (by decide))]
/-- What a field tells: its word, and where its reports go. -/
def wordOf (l : List S33) (name : ByteArray) : ByteArray × ByteArray := match readF l name with | some p => p | none => (⟨#[]⟩, ⟨#[]⟩)
theorem readF_word {l : List S33} (h : Small l 1000 5000) (name : ByteArray) (hz : name.size ≤ 281474976710656) : readF l name = some (wordOf l name) ∧ (wordOf l name).1.size ≤ 4000 := by
  obtain ⟨p, q, e, hp⟩ := readF_some h name hz
  unfold wordOf
  rw [e]
  exact ⟨rfl, hp⟩
theorem word_vals {l l' : List S33} (h : Small l 1000 5000) (h' : Small l' 1000 5000) (name : ByteArray) (hz : name.size ≤ 281474976710656) (e : valsOf l name = valsOf l' name) : wordOf l name = wordOf l' name := by
  unfold wordOf; rw [readF_vals h h' name hz e]
theorem word_nil {l : List S33} (h : Small l 1000 5000) (name : ByteArray) (hz : name.size ≤ 281474976710656) (e : valsOf l name = []) : wordOf l name = (⟨#[]⟩, ⟨#[]⟩) := by
  unfold wordOf; rw [readF_nil h name hz e]
def embV (w : ByteArray) : Int := twoOf kReq kCred w
def opnV (w : ByteArray) : Int := twoOf kSame kPop w
theorem coep_f {l : List S33} (h : Small l 1000 5000) : coop_Coep.f l true = some (embV (wordOf l nCoep).1, (wordOf l nCoep).2, embV (wordOf l nCoepR).1, (wordOf l nCoepR).2) := by
  obtain ⟨e1, z1⟩ := readF_word h nCoep (by decide)
  obtain ⟨e2, z2⟩ := readF_word h nCoepR (by decide)
  unfold coop_Coep.f
  rw [if_pos rfl, e1, e2]
  simp only [Option.bind_some]
  rw [if_pos ⟨by omega, by omega⟩]
  rfl
theorem coop_f {l : List S33} (h : Small l 1000 5000) : coop_Coop.f l true = some (plusF (opnV (wordOf l nCoop).1) (isoF (embV (wordOf l nCoep).1)), (wordOf l nCoop).2, plusF (opnV (wordOf l nCoopR).1) (isoF (embV (wordOf l nCoep).1) || isoF (embV (wordOf l nCoepR).1)), (wordOf l nCoopR).2) := by
  obtain ⟨e1, z1⟩ := readF_word h nCoop (by decide)
  obtain ⟨e2, z2⟩ := readF_word h nCoopR (by decide)
  unfold coop_Coop.f
  rw [if_pos rfl, coep_f h, e1, e2]
  simp only [Option.bind_some]
  rw [if_pos ⟨by omega, by omega⟩]
  rfl
theorem coep_off (l : List S33) : coop_Coep.f l false = some (0, ⟨#[]⟩, 0, ⟨#[]⟩) := by
  unfold coop_Coep.f; rw [if_neg (by decide)]
theorem coop_off (l : List S33) : coop_Coop.f l false = some (0, ⟨#[]⟩, 0, ⟨#[]⟩) := by
  unfold coop_Coop.f; rw [if_neg (by decide)]
theorem embV_nil : embV ⟨#[]⟩ = 0 := by decide
theorem opnV_nil : opnV ⟨#[]⟩ = 0 := by decide
theorem opnV_ne (w : ByteArray) : opnV w ≠ 3 := by
  unfold opnV twoOf
  split
  · decide
  · split <;> decide
theorem fold_f (s t : ByteArray) (hs : s.size ≤ 281474976710656) (ht : t.size ≤ 281474976710656) : octet_Fold.f s t = some (foldEq s t) := by
  unfold octet_Fold.f
  rw [lower_f s hs, lower_f t ht]
  rfl
/-- The lines that are not but reported. -/
def plainQ (h : S33) : Bool := !foldEq h.f0 nCoopR && !foldEq h.f0 nCoepR
theorem plain_l0 (l : List S33) (h : Small l 1000 5000) : ∀ (d i : Nat) (x : List S33), l.length - i = d → i ≤ l.length → x.length ≤ i → Evn (fun k => coop_Plain.l0 k x l (l.length : Int) (i : Int)) (x ++ (l.drop i).filter plainQ) := by
  have h1 := h.1
  intro d
  induction d with
  | zero =>
    intro i x hd hi hx
    obtain rfl : i = l.length := by omega
    refine Evn.succ ?_
    simp only [coop_Plain.l0]
    refine Evn.iff_neg (by omega) ?_
    rw [List.drop_length]
    simpa using Evn.some _
  | succ d ih =>
    intro i x hd hi hx
    have hlt : i < l.length := by omega
    have hz := (h.2 l[i] (List.getElem_mem hlt)).1
    refine Evn.succ ?_
    simp only [coop_Plain.l0]
    refine Evn.iff_pos (by omega) (Evn.iff_pos (by omega) (Evn.iff_pos (by omega) ?_))
    rw [rd_hdr l i hlt, List.drop_eq_getElem_cons hlt, List.filter_cons]
    generalize l[i] = h at *
    have ew : wrap64 ((i : Int) + 1) = ((i + 1 : Nat) : Int) := by rw [wr64 (by omega) (by omega)]; omega
    rw [ew]
    refine Evn.bind (Evn.ret (fold_f h.f0 nCoopR hz (by decide))) ?_
    cases e1 : foldEq h.f0 nCoopR with
    | true =>
      have : plainQ h = false := by unfold plainQ; rw [e1]; rfl
      rw [this]
      refine Evn.iff_pos rfl ?_
      exact ih (i + 1) x (by omega) (by omega) (by omega)
    | false =>
      refine Evn.iff_neg (by decide) ?_
      refine Evn.bind (Evn.ret (fold_f h.f0 nCoepR hz (by decide))) ?_
      cases e2 : foldEq h.f0 nCoepR with
      | true =>
        have : plainQ h = false := by unfold plainQ; rw [e1, e2]; rfl
        rw [this]
        refine Evn.iff_pos rfl ?_
        exact ih (i + 1) x (by omega) (by omega) (by omega)
      | false =>
        have : plainQ h = true := by unfold plainQ; rw [e1, e2]; rfl
        rw [this]
        refine Evn.iff_neg (by decide) (Evn.iff_pos (by omega) ?_)
        have := ih (i + 1) (x ++ [h]) (by omega) (by omega) (by rw [List.length_append]; simp; omega)
        simpa using this
theorem plain_f {l : List S33} (h : Small l 1000 5000) : Evn (fun k => coop_Plain.f k l) (l.filter plainQ) := by
  unfold coop_Plain.f
  have := plain_l0 l h _ 0 [] rfl (by omega) (by simp)
  simpa using this
theorem small_filter {l : List S33} {n m : Nat} (h : Small l n m) (p : S33 → Bool) : Small (l.filter p) n m :=
  ⟨Nat.le_trans (List.length_filter_le _ _) h.1, fun x hx => h.2 x (List.mem_filter.1 hx).1⟩
theorem vals_filter (l : List S33) (p : S33 → Bool) (name : ByteArray) (hp : ∀ x ∈ l, foldEq x.f0 name = true → p x = true) : valsOf (l.filter p) name = valsOf l name := by
  unfold valsOf
  rw [List.filter_filter]
  congr 1
  apply List.filter_congr
  intro x hx
  cases e : foldEq x.f0 name with
  | false => rfl
  | true => rw [hp x hx e]; rfl
theorem vals_none (l : List S33) (name : ByteArray) (hp : ∀ x ∈ l, foldEq x.f0 name = false) : valsOf l name = [] := by
  unfold valsOf
  rw [List.filter_eq_nil_iff.2 (fun x hx => by rw [hp x hx]; decide)]
  rfl
theorem fold_ne {s a b : ByteArray} (h : foldEq s a = true) (hn : lowBA a ≠ lowBA b) : foldEq s b = false := by
  cases e : foldEq s b with
  | false => rfl
  | true => exact absurd (((foldEq_iff s a).1 h).symm.trans ((foldEq_iff s b).1 e)) hn
theorem vals_append (l m : List S33) (name : ByteArray) : valsOf (l ++ m) name = valsOf l name ++ valsOf m name := by
  unfold valsOf; rw [List.filter_append, List.map_append]
/-- What the statements let in. -/
def few8 (h : S33) : Bool := decide (h.f0.size ≤ 200) && decide (h.f1.size ≤ 4000)
theorem few8_l0 (l : List S33) (hl : l.length ≤ 1000) : ∀ (d i : Nat), l.length - i = d → i ≤ l.length → Evn (fun k => glacislaw08_Few.l0 k l (i : Int)) ((l.drop i).all few8) := by
  intro d
  induction d with
  | zero =>
    intro i hd hi
    obtain rfl : i = l.length := by omega
    refine Evn.succ ?_
    simp only [glacislaw08_Few.l0]
    refine Evn.iff_neg (by omega) ?_
    rw [List.drop_length]
    exact Evn.some _
  | succ d ih =>
    intro i hd hi
    have hlt : i < l.length := by omega
    refine Evn.succ ?_
    simp only [glacislaw08_Few.l0]
    refine Evn.iff_pos (by omega) (Evn.iff_pos (by omega) ?_)
    rw [rd_hdr l i hlt, List.drop_eq_getElem_cons hlt, List.all_cons]
    generalize l[i] = h
    unfold few8
    by_cases h0 : h.f0.size ≤ 200
    · refine Evn.iff_neg (by omega) ?_
      by_cases h1 : h.f1.size ≤ 4000
      · refine Evn.iff_neg (by omega) ?_
        rw [wr64 (by omega) (by omega), show ((i : Int) + 1) = ((i + 1 : Nat) : Int) by omega]
        simp only [h0, h1, decide_true, Bool.and_true, Bool.true_and]
        exact ih (i + 1) (by omega) (by omega)
      · refine Evn.iff_pos (by omega) ?_
        simp only [h0, h1, decide_true, decide_false, Bool.and_false, Bool.false_and]
        exact Evn.some _
    · refine Evn.iff_pos (by omega) ?_
      simp only [h0, decide_false, Bool.false_and]
      exact Evn.some _
def few8s (l : List S33) : Bool := decide (l.length ≤ 100) && l.all few8
theorem few8_f (l : List S33) : Evn (fun k => glacislaw08_Few.f k l) (few8s l) := by
  unfold glacislaw08_Few.f few8s
  by_cases h : l.length ≤ 100
  · refine Evn.iff_neg (by omega) ?_
    simp only [h, decide_true, Bool.true_and]
    exact few8_l0 l (by omega) _ 0 rfl (by omega)
  · refine Evn.iff_pos (by omega) ?_
    simp only [h, decide_false, Bool.false_and]
    exact Evn.some _
theorem small_few {l : List S33} (h : few8s l = true) : Small l 100 4000 := by
  unfold few8s few8 at h
  simp [List.all_eq_true] at h
  exact ⟨h.1, fun x hx => ⟨by have := (h.2 x hx).1; omega, (h.2 x hx).2⟩⟩
theorem small_up {l : List S33} {n m n' m' : Nat} (h : Small l n m) (hn : n ≤ n') (hm : m ≤ m') : Small l n' m' :=
  ⟨Nat.le_trans h.1 hn, fun x hx => ⟨(h.2 x hx).1, Nat.le_trans (h.2 x hx).2 hm⟩⟩
end Go.Proofs.YtciigmlibnpeeaaDoor.Pl
