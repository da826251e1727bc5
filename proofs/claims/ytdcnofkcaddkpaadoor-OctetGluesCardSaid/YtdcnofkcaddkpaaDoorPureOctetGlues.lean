/- The parts of two texts with the byte between are those of both, and their words with a blank between: over the printed functions. -/
import Derived.Test.YtdcnofkcaddkpaaDoorPlLaw01
import Derived.Test.YtdcnofkcaddkpaaDoorPlWordsOf
namespace Go.Proofs.YtdcnofkcaddkpaaDoor.Pure
set_option linter.unusedVariables false
set_option linter.unusedSimpArgs false
open Go.RowKit Go.Proofs.YtdcnofkcaddkpaaDoor.Q Go.Proofs.YtdcnofkcaddkpaaDoor.Pl Go.Proofs.YtdcnofkcaddkpaaDoorW.PrintWords Go.Proofs.YtdcnofkcaddkpaaDoorW.PrintLast
theorem glue_one_dl (c : Int) : dl (strOfNums [c]) = [UInt8.ofNat c.toNat] := by simp [dl, strOfNums_data]
theorem glue_app_dl (s t : ByteArray) : dl (s ++ t) = dl s ++ dl t := by simp [dl]
theorem glue_parts (s t m : ByteArray) (c : Int) (b : UInt8) (hm : dl m = [b]) (hb : ((b.toNat : Int) == c) = true) :
    cutOf (fun x => x == c) true ((s ++ m) ++ t) = cutOf (fun x => x == c) true s ++ cutOf (fun x => x == c) true t := by
  refine map_data_inj ?_
  show List.map dl _ = List.map dl _
  rw [List.map_append, parts_split, parts_split, parts_split, glue_app_dl, glue_app_dl, hm, List.append_assoc, List.singleton_append]
  exact splitL_glue _ b hb _ _
theorem glue_words (s t m : ByteArray) (hm : dl m = [32]) :
    cutOf blankB false ((s ++ m) ++ t) = cutOf blankB false s ++ cutOf blankB false t := by
  refine map_data_inj ?_
  show List.map dl _ = List.map dl _
  rw [List.map_append, words_dl, words_dl, words_dl, glue_app_dl, glue_app_dl, hm, List.append_assoc, List.singleton_append, splitL_glue qBlank 32 (by decide +kernel), List.filter_append]
theorem OctetGlues : ∀ (a0 : ByteArray) (a1 : ByteArray) (a2 : Int), a0.size ≤ 140737488351232 → a1.size ≤ 140737488351232 → (Lit.int .u8 a2).wf = true → ∃ k, glacislaw01_OctetGlues.f k a0 a1 a2 = some true := by
  intro s t c hs ht hc
  refine Evn.ex (g := fun k => glacislaw01_OctetGlues.f k s t c) ?_
  have hc' : 0 ≤ c ∧ c ≤ 255 := by
    simp only [Lit.wf, Bool.and_eq_true, decide_eq_true_eq] at hc
    have h1 : IntKind.u8.min = 0 := rfl
    have h2 : IntKind.u8.max = 255 := rfl
    omega
  unfold glacislaw01_OctetGlues.f
  refine Evn.bind awake01 ?_
  have hj : Evn (fun k => glacislaw01_OctetGlues.j0 k s t c true true) true := by
    refine Evn.succ ?_
    simp only [glacislaw01_OctetGlues.j0]
    exact Evn.iff_pos (by simp) (Evn.some _)
  by_cases h1 : (s.size : Int) > 2000
  · exact Evn.iff_pos h1 hj
  refine Evn.iff_neg h1 ?_
  by_cases h2 : (t.size : Int) > 2000
  · rw [show decide ((t.size : Int) > 2000) = true from decide_eq_true h2]; exact hj
  rw [show decide ((t.size : Int) > 2000) = false from decide_eq_false h2]
  refine Evn.succ ?_
  have hone : (strOfNums [c]).size = 1 := by rw [strOfNums_size]; rfl
  have z1 : (s ++ strOfNums [c]).size = s.size + 1 := by rw [ByteArray.size_append, hone]
  have z2 : ((s ++ strOfNums [c]) ++ t).size = s.size + 1 + t.size := by rw [ByteArray.size_append, z1]
  have hsp : (⟨#[32]⟩ : ByteArray).size = 1 := rfl
  have z3 : (s ++ (⟨#[32]⟩ : ByteArray)).size = s.size + 1 := by rw [ByteArray.size_append, hsp]
  have z4 : ((s ++ (⟨#[32]⟩ : ByteArray)) ++ t).size = s.size + 1 + t.size := by rw [ByteArray.size_append, z3]
  simp only [glacislaw01_OctetGlues.j0, Option.bind_some]
  rw [split_f _ c (by omega), split_f s c (by omega), split_f t c (by omega), words_f _ (by omega), words_f s (by omega), words_f t (by omega)]
  simp only [Option.bind_some]
  have l1 := cutOf_len (fun x => x == c) true s
  have l2 := cutOf_len (fun x => x == c) true t
  have l3 := cutOf_len blankB false s
  have l4 := cutOf_len blankB false t
  have g1 := glue_parts s t (strOfNums [c]) c (UInt8.ofNat c.toNat) (glue_one_dl c) (by rw [UInt8.toNat_ofNat']; simp; omega)
  have g2 := glue_words s t ⟨#[32]⟩ rfl
  rw [g1, g2]
  refine Evn.iff_neg (by decide) (Evn.iff_pos (by omega) (Evn.iff_pos (by omega) (Evn.iff_pos (by omega) (Evn.bind (texts _ _ (by rw [List.length_append]; omega)) (Evn.iff_pos (by omega) (Evn.iff_pos (by omega) (Evn.iff_pos (by omega) (Evn.bind (texts _ _ (by rw [List.length_append]; omega)) ?_))))))))
  rw [textsEq_refl, textsEq_refl]
  exact Evn.some _
end Go.Proofs.YtdcnofkcaddkpaaDoor.Pure
