/- A text's parts, with the byte between, are the text, and none has that byte: over the printed functions. -/
import Derived.Test.YtdcnofkcaddkpaaDoorPlLaw01
import Derived.Test.YtdcnofkcaddkpaaDoorPlIn
namespace Go.Proofs.YtdcnofkcaddkpaaDoor.Pure
set_option linter.unusedVariables false
set_option linter.unusedSimpArgs false
open Go.RowKit Go.Proofs.YtdcnofkcaddkpaaDoor.Q Go.Proofs.YtdcnofkcaddkpaaDoor.Pl Go.Proofs.YtdcnofkcaddkpaaDoorW.PrintWords Go.Proofs.YtdcnofkcaddkpaaDoorW.PrintLast

theorem one_dl (c : Int) : dl (strOfNums [c]) = [UInt8.ofNat c.toNat] := by simp [dl, strOfNums_data]
theorem app_dl (s t : ByteArray) : dl (s ++ t) = dl s ++ dl t := by simp [dl]
theorem joins_l0 (s : ByteArray) (c : Int) (hs : s.size ≤ 2000) (hc : 0 ≤ c ∧ c ≤ 255) (l : List ByteArray) (hll : l.length ≤ 4000) (hl : l.map dl = splitL (fun b => (b.toNat : Int) == c) (dl s)) :
    ∀ (d i : Nat) (acc : ByteArray), l.length - i = d → i ≤ l.length → 0 < i → dl acc ++ tailL (UInt8.ofNat c.toNat) ((l.drop i).map dl) = dl s →
    Evn (fun k => glacislaw01_OctetJoins.l0 k s c true l acc i) true := by
  intro d
  induction d with
  | zero =>
    intro i acc hd hi h0 hacc
    refine Evn.succ ?_
    simp only [glacislaw01_OctetJoins.l0]
    rw [List.drop_eq_nil_of_le (by omega)] at hacc
    have e : acc = s := dl_inj (by simpa [tailL] using hacc)
    subst e
    refine Evn.iff_neg (by omega) (Evn.iff_pos (by simp) (Evn.iff_pos (by simp) (Evn.ret ?_)))
    simp; omega
  | succ d ih =>
    intro i acc hd hi h0 hacc
    have hil : i < l.length := by omega
    have e1 : rdOf ByteArray.empty l (i : Int) = l[i] := by simp [rdOf, List.getD_eq_getElem?_getD, List.getElem?_eq_getElem hil]
    have hmem : dl l[i] ∈ splitL (fun b => (b.toNat : Int) == c) (dl s) := by rw [← hl]; exact List.mem_map_of_mem (List.getElem_mem hil)
    have hin : inB c (dl l[i]) = false := inB_false c _ (fun b hb => splitL_parts _ _ _ hmem b hb)
    rw [List.drop_eq_getElem_cons hil] at hacc
    have hszs := dl_len s
    have hlen : (dl acc).length + (dl l[i]).length + 1 ≤ (dl s).length := by
      rw [← hacc]
      simp only [List.length_append, tailL, List.map_cons, List.flatMap_cons, List.length_cons]
      omega
    rw [dl_len, dl_len] at hlen
    have h2 : (acc ++ strOfNums [c]).size = acc.size + 1 := by rw [← dl_len, app_dl, one_dl, List.length_append, dl_len]; rfl
    have hone : (strOfNums [c]).size = 1 := by rw [strOfNums_size]; rfl
    refine Evn.succ ?_
    simp only [glacislaw01_OctetJoins.l0, Option.bind_some]
    rw [e1, wr64 (by omega) (by omega)]
    refine Evn.iff_pos (by omega) (Evn.iff_pos (by omega) (Evn.iff_pos (by omega) (Evn.iff_pos (by omega) (Evn.bind (in_f c l[i] (by omega)) ?_))))
    rw [hin]
    refine Evn.iff_neg (by decide) (Evn.iff_pos (by omega) (ih (i + 1) _ (by omega) (by omega) (by omega) ?_))
    rw [app_dl, app_dl, one_dl, ← hacc]
    simp only [tailL, List.map_cons, List.flatMap_cons, List.append_assoc, List.cons_append, List.nil_append]
theorem OctetJoins : ∀ (a0 : ByteArray) (a1 : Int), a0.size ≤ 140737488351232 → (Lit.int .u8 a1).wf = true → ∃ k, glacislaw01_OctetJoins.f k a0 a1 = some true := by
  intro s c hs hc
  refine Evn.ex (g := fun k => glacislaw01_OctetJoins.f k s c) ?_
  unfold glacislaw01_OctetJoins.f
  refine Evn.bind awake01 ?_
  by_cases h2 : (s.size : Int) > 2000
  · exact Evn.iff_pos h2 (Evn.some _)
  refine Evn.iff_neg h2 ?_
  rw [split_f s c (by omega)]
  simp only [Option.bind_some]
  have hc' : 0 ≤ c ∧ c ≤ 255 := by
    simp only [Lit.wf, Bool.and_eq_true, decide_eq_true_eq] at hc
    have h1 : IntKind.u8.min = 0 := rfl
    have h2 : IntKind.u8.max = 255 := rfl
    omega
  have hl := parts_split (fun x => x == c) s
  have hlen := cutOf_len (fun x => x == c) true s
  generalize cutOf (fun x => x == c) true s = l at hl hlen
  cases l with
  | nil => exact absurd hl.symm (splitL_ne _ _)
  | cons x xs =>
    have hj := splitL_join (fun b : UInt8 => (b.toNat : Int) == c) (UInt8.ofNat c.toNat) (fun b hb => by
      have h := eq_of_beq hb
      rw [← h]; simp) (dl s) (dl x) (xs.map dl) (by rw [← hl]; rfl)
    have hmem : dl x ∈ splitL (fun b => (b.toNat : Int) == c) (dl s) := by rw [← hl]; simp
    have hin : inB c (dl x) = false := inB_false c _ (fun b hb => splitL_parts _ _ _ hmem b hb)
    have hxl : (dl x).length ≤ (dl s).length := by rw [← hj, List.length_append]; omega
    rw [dl_len, dl_len] at hxl
    have he : (⟨#[]⟩ : ByteArray).size = 0 := rfl
    refine Evn.succ ?_
    simp only [glacislaw01_OctetJoins.l0, Option.bind_some]
    have e1 : rdOf ByteArray.empty (x :: xs) 0 = x := rfl
    rw [e1]
    simp only [List.length_cons] at hlen ⊢
    refine Evn.iff_pos (by omega) (Evn.iff_neg (by omega) (Evn.iff_pos (by omega) (Evn.bind (in_f c x (by omega)) ?_)))
    rw [hin]
    refine Evn.iff_neg (by decide) (Evn.iff_pos (by omega) ?_)
    rw [wr64 (by omega) (by omega)]
    refine joins_l0 s c (by omega) hc' (x :: xs) (by simp only [List.length_cons]; omega) hl _ 1 _ rfl (by simp) (by omega) ?_
    rw [app_dl]
    simpa [dl] using hj
end Go.Proofs.YtdcnofkcaddkpaaDoor.Pure
