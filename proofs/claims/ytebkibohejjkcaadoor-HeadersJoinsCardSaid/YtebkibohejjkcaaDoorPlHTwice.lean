/- What is trimmed stays so. -/
import Derived.Test.YtebkibohejjkcaaDoorPlHSplit
namespace Go.Proofs.YtebkibohejjkcaaDoor.Pl
set_option linter.unusedVariables false
set_option linter.unusedSimpArgs false
open Go.RowKit Go.Proofs.YtebkibohejjkcaaDoor.Q Go.Proofs.YtebkibohejjkcaaDoorW.PrintWords Go.Proofs.YtebkibohejjkcaaDoorW.PrintLast

def isBlank (b : UInt8) : Bool := ([9, 10, 12, 13, 32] : List UInt8).contains b
theorem trim_dl (s : ByteArray) : dl (trimBA s) = ((dl s).reverse.dropWhile isBlank).reverse.dropWhile isBlank := rfl
theorem dropWhile_head {α : Type} (q : α → Bool) : ∀ (l : List α) (x : α) (xs : List α), l.dropWhile q = x :: xs → q x = false
  | [], x, xs, h => by simp at h
  | y :: l, x, xs, h => by
    rw [List.dropWhile_cons] at h
    by_cases hy : q y = true
    · rw [if_pos hy] at h; exact dropWhile_head q l x xs h
    · rw [if_neg hy] at h
      injection h with h1 _
      subst h1
      simpa using hy
theorem dropWhile_same {α : Type} (q : α → Bool) (l : List α) (h : ∀ x xs, l = x :: xs → q x = false) : l.dropWhile q = l := by
  cases l with
  | nil => rfl
  | cons x xs => rw [List.dropWhile_cons, if_neg (by rw [h x xs rfl]; decide)]
/-- What has no blank at its ends is trimmed to itself. -/
theorem trim_same (s : ByteArray) (h1 : ∀ x xs, dl s = x :: xs → isBlank x = false) (h2 : ∀ x xs, (dl s).reverse = x :: xs → isBlank x = false) : trimBA s = s := by
  refine dl_inj ?_
  rw [trim_dl, dropWhile_same isBlank _ h2, List.reverse_reverse, dropWhile_same isBlank _ h1]
theorem trim_head (s : ByteArray) (x : UInt8) (xs : List UInt8) (h : dl (trimBA s) = x :: xs) : isBlank x = false := by
  rw [trim_dl] at h
  exact dropWhile_head _ _ _ _ h
theorem reverse_cons_of {α : Type} {l : List α} {x : α} {xs : List α} (h : l.reverse = x :: xs) : l = xs.reverse ++ [x] := by
  rw [← List.reverse_reverse l, h, List.reverse_cons]
theorem dropWhile_last {α : Type} (q : α → Bool) : ∀ (l : List α) (x : α) (xs : List α), (l.dropWhile q).reverse = x :: xs → ∃ ys, l.reverse = x :: ys
  | [], x, xs, h => by simp at h
  | y :: l, x, xs, h => by
    rw [List.dropWhile_cons] at h
    by_cases hy : q y = true
    · rw [if_pos hy] at h
      obtain ⟨ys, e⟩ := dropWhile_last q l x xs h
      exact ⟨ys ++ [y], by rw [List.reverse_cons, e]; rfl⟩
    · rw [if_neg hy] at h
      exact ⟨xs, h⟩
theorem trim_last (s : ByteArray) (x : UInt8) (xs : List UInt8) (h : (dl (trimBA s)).reverse = x :: xs) : isBlank x = false := by
  rw [trim_dl] at h
  obtain ⟨ys, e⟩ := dropWhile_last isBlank _ x xs h
  rw [List.reverse_reverse] at e
  exact dropWhile_head _ _ _ _ e
theorem trim_twice (s : ByteArray) : trimBA (trimBA s) = trimBA s := trim_same _ (trim_head s) (trim_last s)
end Go.Proofs.YtebkibohejjkcaaDoor.Pl
