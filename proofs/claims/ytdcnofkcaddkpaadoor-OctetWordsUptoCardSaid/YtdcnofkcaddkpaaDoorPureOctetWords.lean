/- Words have no blanks, are not empty, and a text has none just if trimming leaves nothing: over the printed functions. -/
import Derived.Test.YtdcnofkcaddkpaaDoorPlLaw01
import Derived.Test.YtdcnofkcaddkpaaDoorPlWordsOf
namespace Go.Proofs.YtdcnofkcaddkpaaDoor.Pure
set_option linter.unusedVariables false
set_option linter.unusedSimpArgs false
open Go.RowKit Go.Proofs.YtdcnofkcaddkpaaDoor.Q Go.Proofs.YtdcnofkcaddkpaaDoor.Pl Go.Proofs.YtdcnofkcaddkpaaDoorW.PrintWords Go.Proofs.YtdcnofkcaddkpaaDoorW.PrintLast
theorem words_l0 (s : ByteArray) (hs : s.size ≤ 1048576) (l : List ByteArray) (hl : l = cutOf blankB false s) (hsz : ∀ w, w ∈ l → w.size ≤ s.size) : ∀ (d i : Nat), l.length - i = d → i ≤ l.length →
    Evn (fun k => glacislaw01_OctetWords.l0 k s true l i) true := by
  have hlen : l.length ≤ s.size + 1 := by rw [hl]; exact cutOf_len _ _ _
  intro d
  induction d with
  | zero =>
    intro i hd hi
    refine Evn.succ ?_
    simp only [glacislaw01_OctetWords.l0]
    rw [trim_f s (by omega)]
    refine Evn.iff_neg (by omega) (Evn.iff_pos (by simp) (Evn.ret ?_))
    simp only [Option.bind_some]
    congr 1
    have h := words_nil_iff s
    rw [← hl] at h
    have e1 : ((l.length : Int) == 0) = decide (l = []) := by
      rw [Bool.eq_iff_iff]
      simp only [beq_iff_eq, decide_eq_true_eq]
      rw [← List.length_eq_zero_iff]
      omega
    have e2 : ((trimBA s).toList == ([] : List UInt8)) = decide (dl (trimBA s) = []) := by
      rw [Lib.toList_data]
      rw [Bool.eq_iff_iff]
      simp [dl]
    rw [e1, e2]
    simp [h]
  | succ d ih =>
    intro i hd hi
    have hil : i < l.length := by omega
    have hm : l[i] ∈ l := List.getElem_mem hil
    obtain ⟨h0, hb⟩ := word_of s l[i] (by rw [← hl]; exact hm)
    have hz := hsz _ hm
    have e1 : rdOf ByteArray.empty l (i : Int) = l[i] := by simp [rdOf, List.getD_eq_getElem?_getD, List.getElem?_eq_getElem hil]
    refine Evn.succ ?_
    simp only [glacislaw01_OctetWords.l0]
    rw [e1, trim_f l[i] (by omega), words_f l[i] (by omega), wr64 (by omega) (by omega)]
    simp only [Option.bind_some]
    rw [trim_word _ hb, words_one _ h0 hb]
    refine Evn.iff_pos (by omega) (Evn.iff_pos (by omega) (Evn.iff_neg (fun e => h0 (by rw [Lib.toList_data] at e; exact e)) (Evn.iff_pos (by simp) (Evn.iff_pos (by simp) (ih (i + 1) (by omega) (by omega))))))
theorem OctetWords : ∀ (a0 : ByteArray), a0.size ≤ 1048576 → ∃ k, glacislaw01_OctetWords.f k a0 = some true := by
  intro s hs
  refine Evn.ex (g := fun k => glacislaw01_OctetWords.f k s) ?_
  unfold glacislaw01_OctetWords.f
  rw [words_f s (by omega)]
  simp only [Option.bind_some]
  refine Evn.bind awake01 (words_l0 s hs _ rfl (fun w hw => ?_) _ 0 rfl (Nat.zero_le _))
  have hm : w ∈ (cutSt blankB s s.size).1 ++ [s.extract (cutSt blankB s s.size).2 s.size] := (List.mem_filter.1 hw).1
  exact part_size blankB s w hm
end Go.Proofs.YtdcnofkcaddkpaaDoor.Pure
