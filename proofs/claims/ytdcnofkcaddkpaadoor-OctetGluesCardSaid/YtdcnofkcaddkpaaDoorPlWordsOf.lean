/- Words have no blanks; and which text has none. -/
import Derived.Test.YtdcnofkcaddkpaaDoorPlTwice
namespace Go.Proofs.YtdcnofkcaddkpaaDoor.Pl
set_option linter.unusedVariables false
set_option linter.unusedSimpArgs false
open Go.RowKit Go.Proofs.YtdcnofkcaddkpaaDoor.Q Go.Proofs.YtdcnofkcaddkpaaDoorW.PrintWords Go.Proofs.YtdcnofkcaddkpaaDoorW.PrintLast

def qBlank (b : UInt8) : Bool := blankB b.toNat
theorem qBlank_is (b : UInt8) : qBlank b = isBlank b := by
  unfold qBlank isBlank
  rw [blank_blk _ b.toNat_lt, ← set_blk _ b.toNat_lt]
  simp
theorem words_dl (s : ByteArray) : (cutOf blankB false s).map dl = (splitL qBlank (dl s)).filter (fun x => !x.isEmpty) := words_split blankB s
theorem word_of (s w : ByteArray) (h : w ∈ cutOf blankB false s) : dl w ≠ [] ∧ ∀ c, c ∈ dl w → isBlank c = false := by
  have hm : dl w ∈ (splitL qBlank (dl s)).filter (fun x => !x.isEmpty) := by rw [← words_dl]; exact List.mem_map_of_mem h
  rw [List.mem_filter] at hm
  refine ⟨fun e => by rw [e] at hm; simp at hm, fun c hc => ?_⟩
  rw [← qBlank_is]
  exact splitL_parts _ _ _ hm.1 c hc
theorem words_one (w : ByteArray) (h0 : dl w ≠ []) (h : ∀ c, c ∈ dl w → isBlank c = false) : cutOf blankB false w = [w] := by
  have e := words_dl w
  rw [splitL_none qBlank (dl w) (fun c hc => by rw [qBlank_is]; exact h c hc)] at e
  have e2 : [dl w].filter (fun x => !x.isEmpty) = [dl w] := by
    cases hd : dl w with
    | nil => exact absurd hd h0
    | cons x xs => simp
  rw [e2] at e
  exact map_data_inj (b := [w]) e
theorem trim_word (w : ByteArray) (h : ∀ c, c ∈ dl w → isBlank c = false) : trimBA w = w :=
  trim_same w (fun x xs e => h x (by rw [e]; exact List.mem_cons_self)) (fun x xs e => h x (by rw [← List.mem_reverse, e]; exact List.mem_cons_self))
theorem dropWhile_nil {α : Type} {q : α → Bool} {l : List α} : l.dropWhile q = [] ↔ ∀ x, x ∈ l → q x = true := by
  induction l with
  | nil => simp
  | cons y l ih =>
    rw [List.dropWhile_cons]
    by_cases hy : q y = true
    · rw [if_pos hy, ih]
      constructor
      · intro h x hx
        rcases List.mem_cons.1 hx with rfl | hx
        · exact hy
        · exact h x hx
      · intro h x hx
        exact h x (List.mem_cons_of_mem _ hx)
    · rw [if_neg hy]
      constructor
      · intro h; cases h
      · intro h; exact absurd (h y List.mem_cons_self) hy
theorem trim_nil_iff (s : ByteArray) : dl (trimBA s) = [] ↔ ∀ c, c ∈ dl s → isBlank c = true := by
  rw [trim_dl, dropWhile_nil]
  constructor
  · intro h
    have hx : (dl s).reverse.dropWhile isBlank = [] := by
      cases hd : (dl s).reverse.dropWhile isBlank with
      | nil => rfl
      | cons x xs =>
        have h1 := dropWhile_head _ _ _ _ hd
        have h2 := h x (by rw [hd]; simp)
        rw [h1] at h2; cases h2
    rw [dropWhile_nil] at hx
    intro c hc
    exact hx c (by simpa using hc)
  · intro h c hc
    refine h c ?_
    have := (List.dropWhile_sublist isBlank).subset (List.mem_reverse.1 hc)
    simpa using this
theorem words_nil_iff (s : ByteArray) : cutOf blankB false s = [] ↔ dl (trimBA s) = [] := by
  have e := words_dl s
  have hf := splitL_flat qBlank (dl s)
  rw [trim_nil_iff]
  constructor
  · intro h c hc
    rw [h] at e
    have e' := e.symm
    rw [List.map_nil, List.filter_eq_nil_iff] at e'
    have hfl : (splitL qBlank (dl s)).flatten = [] := by
      rw [List.flatten_eq_nil_iff]
      intro x hx
      have := e' x hx
      simpa using this
    rw [hfl] at hf
    have hn := hf.symm
    rw [List.filter_eq_nil_iff] at hn
    have := hn c hc
    rw [qBlank_is] at this
    simpa using this
  · intro h
    have hn : (dl s).filter (fun c => !qBlank c) = [] := by
      rw [List.filter_eq_nil_iff]
      intro c hc
      rw [qBlank_is, h c hc]
      simp
    rw [hn, List.flatten_eq_nil_iff] at hf
    have : (splitL qBlank (dl s)).filter (fun x => !x.isEmpty) = [] := by
      rw [List.filter_eq_nil_iff]
      intro x hx
      rw [hf x hx]
      simp
    rw [this] at e
    exact List.map_eq_nil_iff.1 e
end Go.Proofs.YtdcnofkcaddkpaaDoor.Pl
