/- Chapter 10 in plain words: a policy's text. -/
import Derived.Test.YtkjlhhhnananlaaDoorPl10Head
import Derived.Test.YtkjlhhhnananlaaDoorQx6
namespace Go.Proofs.YtkjlhhhnananlaaDoor.Pl
open Go.RowKit Go.Proofs.YtkjlhhhnananlaaDoor.Q Go.Proofs.YtkjlhhhnananlaaDoorW.PrintWords Go.Proofs.YtkjlhhhnananlaaDoorW.PrintLast
set_option linter.unusedVariables false
set_option linter.unusedSimpArgs false
def spSep : ByteArray := ⟨#[32]⟩
def semSep : ByteArray := ⟨#[59, 32]⟩
def wordsTo (n : ByteArray) (l : List ByteArray) : ByteArray := l.foldl (fun a x => (a ++ spSep) ++ x) n
theorem join_one (n sep : ByteArray) : joinBA [n] sep = n := by
  have := join_snoc [] n sep
  simpa using this
theorem foldl_snoc (n x : ByteArray) (l : List ByteArray) : wordsTo n (l ++ [x]) = (wordsTo n l ++ spSep) ++ x := by
  unfold wordsTo
  rw [List.foldl_append]
  rfl
theorem join_words (n : ByteArray) : ∀ (d : Nat) (l : List ByteArray), l.length = d → joinBA (n :: l) spSep = wordsTo n l := by
  intro d
  induction d with
  | zero =>
    intro l h
    obtain rfl := List.length_eq_zero_iff.1 h
    exact join_one n spSep
  | succ d ih =>
    intro l h
    have hne : l ≠ [] := by intro e; rw [e] at h; cases h
    obtain ⟨ys, y, rfl⟩ : ∃ ys y, l = ys ++ [y] := ⟨l.dropLast, l.getLast hne, (List.dropLast_concat_getLast hne).symm⟩
    rw [foldl_snoc, ← ih ys (by simpa using h), ← List.cons_append, join_snoc, if_neg (by simp)]
theorem wordsTo_size (m : Nat) (n : ByteArray) : ∀ l : List ByteArray, (∀ x ∈ l, x.size ≤ m) → (wordsTo n l).size ≤ n.size + l.length * (m + 1) := by
  intro l
  induction l generalizing n with
  | nil => intro _; simp [wordsTo]
  | cons x l ih =>
    intro h
    have h1 := h x (List.mem_cons_self ..)
    have ih := ih ((n ++ spSep) ++ x) (fun y hy => h y (List.mem_cons_of_mem _ hy))
    have e : wordsTo n (x :: l) = wordsTo ((n ++ spSep) ++ x) l := rfl
    rw [e, List.length_cons, Nat.succ_mul]
    rw [ByteArray.size_append, ByteArray.size_append, show spSep.size = 1 from rfl] at ih
    omega
theorem ref_wordsTo_l0 (m : Nat) (l : List ByteArray) (hx : ∀ x ∈ l, x.size ≤ m) (hl : l.length ≤ 10000) (hm : m ≤ 10000) (n0 : ByteArray) (hn : n0.size ≤ 10000) : ∀ (d i : Nat), l.length - i = d → i ≤ l.length →
    Evn (fun k => glacisref10_words.l0 k (wordsTo n0 (l.take i)) l (i : Int)) (wordsTo n0 l) := by
  intro d
  induction d with
  | zero =>
    intro i hd hi
    obtain rfl : i = l.length := by omega
    refine Evn.succ ?_
    simp only [glacisref10_words.l0]
    refine Evn.iff_neg (by omega) ?_
    rw [List.take_length]
    exact Evn.some _
  | succ d ih =>
    intro i hd hi
    have hlt : i < l.length := by omega
    have hih := ih (i + 1) (by omega) (by omega)
    rw [List.take_succ_eq_append_getElem hlt, foldl_snoc] at hih
    have hs := wordsTo_size m n0 (l.take i) (fun x hxx => hx x (List.mem_of_mem_take hxx))
    have hb : (l.take i).length * (m + 1) ≤ 10000 * 10001 := Nat.mul_le_mul (by rw [List.length_take]; omega) (by omega)
    have hxi := hx l[i] (List.getElem_mem hlt)
    refine Evn.succ ?_
    simp only [glacisref10_words.l0]
    rw [rd_str l i hlt, wr64 (by omega) (by omega), show ((i : Int) + 1) = ((i + 1 : Nat) : Int) by omega]
    refine Evn.iff_pos (by omega) (Evn.iff_pos (by omega) (Evn.iff_pos (by omega) (Evn.iff_pos ?_ hih)))
    rw [ByteArray.size_append, show (⟨#[32]⟩ : ByteArray).size = 1 from rfl]
    omega
theorem ref_wordsTo (m : Nat) (l : List ByteArray) (hx : ∀ x ∈ l, x.size ≤ m) (hl : l.length ≤ 10000) (hm : m ≤ 10000) (n0 : ByteArray) (hn : n0.size ≤ 10000) : Evn (fun k => glacisref10_words.f k n0 l) (wordsTo n0 l) := by
  unfold glacisref10_words.f
  exact ref_wordsTo_l0 m l hx hl hm n0 hn _ 0 rfl (Nat.zero_le _)
def textOf (a : Bool) (l1 : List ByteArray) (c : Bool) (l3 : List ByteArray) : ByteArray :=
  if a = true then (if c = true then (wordsTo ancName l1 ++ semSep) ++ wordsTo boxName l3 else wordsTo ancName l1) else if c = true then wordsTo boxName l3 else ⟨#[]⟩
theorem join_f (m : Nat) (l : List ByteArray) (sep : ByteArray) (hx : ∀ x ∈ l, x.size ≤ m) (hl : l.length ≤ 10001) (hm : m ≤ 1000000000) (hs : sep.size ≤ 2) : strings_Join.f l sep = some (joinBA l sep) := by
  have h1 := join_size l sep m hx
  have h2 : l.length * (m + sep.size) ≤ 10001 * 1000000002 := Nat.mul_le_mul hl (by omega)
  exact if_pos ⟨by omega, by omega⟩
theorem text_f (a : Bool) (l1 : List ByteArray) (c : Bool) (l3 : List ByteArray) (m : Nat) (hm : m ≤ 10000) (h1 : ∀ x ∈ l1, x.size ≤ m) (h3 : ∀ x ∈ l3, x.size ≤ m) (n1 : l1.length ≤ 10000) (n3 : l3.length ≤ 10000) :
    Evn (fun k => cspparse_Text.f k a l1 c l3) (textOf a l1 c l3) := by
  have z1 := wordsTo_size m ancName l1 h1
  have z3 := wordsTo_size m boxName l3 h3
  have b1 : l1.length * (m + 1) ≤ 10000 * 10001 := Nat.mul_le_mul n1 (by omega)
  have b3 : l3.length * (m + 1) ≤ 10000 * 10001 := Nat.mul_le_mul n3 (by omega)
  have za : ancName.size = 15 := rfl
  have zb : boxName.size = 7 := rfl
  have j1 : strings_Join.f (ancName :: l1) spSep = some (wordsTo ancName l1) := by
    rw [join_f 10000 (ancName :: l1) spSep (fun x hx => by rcases List.mem_cons.1 hx with rfl | hx; exact (by omega); exact Nat.le_trans (h1 x hx) hm) (by simp only [List.length_cons]; omega) (by omega) (by decide), join_words ancName _ l1 rfl]
  have j3 : strings_Join.f (boxName :: l3) spSep = some (wordsTo boxName l3) := by
    rw [join_f 10000 (boxName :: l3) spSep (fun x hx => by rcases List.mem_cons.1 hx with rfl | hx; exact (by omega); exact Nat.le_trans (h3 x hx) hm) (by simp only [List.length_cons]; omega) (by omega) (by decide), join_words boxName _ l3 rfl]
  have e1 : strings_Join.f ([(⟨#[102, 114, 97, 109, 101, 45, 97, 110, 99, 101, 115, 116, 111, 114, 115]⟩ : ByteArray)] ++ l1) (⟨#[32]⟩ : ByteArray) = some (wordsTo ancName l1) := j1
  have e3 : strings_Join.f ([(⟨#[115, 97, 110, 100, 98, 111, 120]⟩ : ByteArray)] ++ l3) (⟨#[32]⟩ : ByteArray) = some (wordsTo boxName l3) := j3
  have k0 : strings_Join.f [] (⟨#[59, 32]⟩ : ByteArray) = some ⟨#[]⟩ := by
    exact (join_f 0 [] semSep (by simp) (by simp) (by omega) (by decide)).trans rfl
  have k1 : ∀ x : ByteArray, x.size ≤ 1000000000 → strings_Join.f [x] (⟨#[59, 32]⟩ : ByteArray) = some x := fun x hx => by
    rw [show strings_Join.f [x] (⟨#[59, 32]⟩ : ByteArray) = some (joinBA [x] semSep) from join_f x.size [x] semSep (fun y hy => by rw [List.mem_singleton.1 hy]; exact Nat.le_refl _) (by simp) hx (by decide), join_one]
  have k2 : ∀ x y : ByteArray, x.size ≤ 1000000000 → y.size ≤ 1000000000 → strings_Join.f ([x] ++ [y]) (⟨#[59, 32]⟩ : ByteArray) = some ((x ++ semSep) ++ y) := fun x y hx hy => by
    rw [show strings_Join.f ([x] ++ [y]) (⟨#[59, 32]⟩ : ByteArray) = some (joinBA ([x] ++ [y]) semSep) from join_f 1000000000 ([x] ++ [y]) semSep (fun z hz => by
      rcases List.mem_append.1 hz with hz | hz <;> rw [List.mem_singleton.1 hz] <;> assumption) (by simp) (by omega) (by decide), join_snoc, if_neg (by simp), join_one]
  have jj : ∀ x3 : List ByteArray, x3.length ≤ 1 → (x3 = [] ∨ ∃ x, x3 = [x] ∧ x.size ≤ 1000000000) →
      Evn (fun k => cspparse_Text.j0 k x3 a l1 c l3) (match x3 with | [] => (if c = true then wordsTo boxName l3 else ⟨#[]⟩) | x :: _ => (if c = true then (x ++ semSep) ++ wordsTo boxName l3 else x)) := by
    intro x3 hl hx
    refine Evn.succ (Evn.ret ?_)
    simp only [cspparse_Text.j0]
    cases c with
    | true =>
      simp only [if_true, Option.bind_some]
      rw [if_pos (by simp; omega), e3]
      simp only [Option.bind_some]
      rw [if_pos (by omega)]
      rcases hx with rfl | ⟨x, rfl, hxs⟩
      · rw [List.nil_append, k1 _ (by omega)]; rfl
      · rw [k2 x _ hxs (by omega)]; rfl
    | false =>
      simp only [Bool.false_eq_true, if_false]
      rcases hx with rfl | ⟨x, rfl, hxs⟩
      · rw [k0]; rfl
      · rw [k1 x hxs]; rfl
  unfold cspparse_Text.f textOf
  cases a with
  | true =>
    simp only [if_true, Option.bind_some]
    refine Evn.iff_pos (by simp; omega) ?_
    rw [e1]
    simp only [Option.bind_some]
    refine Evn.iff_pos (by simp) ?_
    exact jj [wordsTo ancName l1] (by simp) (.inr ⟨_, rfl, by omega⟩)
  | false =>
    simp only [Bool.false_eq_true, if_false]
    exact jj [] (by simp) (.inl rfl)
theorem ref_text (a : Bool) (l1 : List ByteArray) (c : Bool) (l3 : List ByteArray) (m : Nat) (hm : m ≤ 10000) (h1 : ∀ x ∈ l1, x.size ≤ m) (h3 : ∀ x ∈ l3, x.size ≤ m) (n1 : l1.length ≤ 10000) (n3 : l3.length ≤ 10000) :
    Evn (fun k => glacisref10_Text.f k a l1 c l3) (textOf a l1 c l3) := by
  have z1 := wordsTo_size m ancName l1 h1
  have z3 := wordsTo_size m boxName l3 h3
  have b1 : l1.length * (m + 1) ≤ 10000 * 10001 := Nat.mul_le_mul n1 (by omega)
  have b3 : l3.length * (m + 1) ≤ 10000 * 10001 := Nat.mul_le_mul n3 (by omega)
  have za : ancName.size = 15 := rfl
  have zb : boxName.size = 7 := rfl
  have w1 := ref_wordsTo m l1 h1 n1 hm ancName (by omega)
  have w3 := ref_wordsTo m l3 h3 n3 hm boxName (by omega)
  unfold glacisref10_Text.f textOf
  cases a with
  | true =>
    refine Evn.iff_pos (by simp) (Evn.bind w1 (Evn.succ ?_))
    simp only [glacisref10_Text.j0]
    refine Evn.iff_pos (by simp) (Evn.succ ?_)
    simp only [glacisref10_Text.j1]
    cases c with
    | true =>
      refine Evn.iff_pos (by simp) (Evn.iff_pos (by omega) (Evn.iff_pos (by simp) (Evn.bind w3 (Evn.iff_pos ?_ (Evn.ret rfl)))))
      rw [ByteArray.size_append, show (⟨#[59, 32]⟩ : ByteArray).size = 2 from rfl]
      omega
    | false => exact Evn.iff_neg (by simp) (Evn.iff_neg (by simp) (Evn.ret rfl))
  | false =>
    refine Evn.iff_neg (by simp) (Evn.succ ?_)
    simp only [glacisref10_Text.j0]
    refine Evn.iff_neg (by simp) (Evn.succ ?_)
    simp only [glacisref10_Text.j1]
    refine Evn.iff_neg (by simp) ?_
    cases c with
    | true =>
      refine Evn.iff_pos (by simp) (Evn.bind w3 (Evn.iff_pos ?_ (Evn.ret ?_)))
      · rw [show (⟨#[]⟩ : ByteArray).size = 0 from rfl]
        omega
      · exact congrArg some (ba_ext (by simp))
    | false => exact Evn.iff_neg (by simp) (Evn.ret rfl)
end Go.Proofs.YtkjlhhhnananlaaDoor.Pl
