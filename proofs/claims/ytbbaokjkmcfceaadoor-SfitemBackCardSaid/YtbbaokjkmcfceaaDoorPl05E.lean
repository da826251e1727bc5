/- Chapter 5: an item is the same as itself; how many parameters a text has. -/
import Derived.Test.YtbbaokjkmcfceaaDoorQx5
import Derived.Test.YtbbaokjkmcfceaaDoorPl05D
namespace Go.Proofs.YtbbaokjkmcfceaaDoor.Pl
open Go.RowKit Go.Proofs.YtbbaokjkmcfceaaDoor.Q Go.Proofs.YtbbaokjkmcfceaaDoor.Sf Go.Proofs.YtbbaokjkmcfceaaDoorW.PrintWords Go.Proofs.YtbbaokjkmcfceaaDoorW.PrintLast
set_option linter.unusedVariables false
set_option linter.unusedSimpArgs false
theorem wrap_next (j : Nat) (h : j ≤ 100000) : wrap64 ((j : Int) + 1) = ((j + 1 : Nat) : Int) := by
  unfold wrap64; omega
theorem same_loop (l : List S38) (hl : l.length ≤ 100000) : ∀ (m j k : Nat), j + m = l.length → m < k → glacisref05_SameParams.l0 k l l (j : Int) = some true
  | 0, j, k, hm, hk => by
    obtain ⟨k, rfl⟩ : ∃ k', k = k' + 1 := ⟨k - 1, by omega⟩
    rw [glacisref05_SameParams.l0, if_neg (by omega)]
  | m + 1, j, k, hm, hk => by
    obtain ⟨k, rfl⟩ : ∃ k', k = k' + 1 := ⟨k - 1, by omega⟩
    rw [glacisref05_SameParams.l0, if_pos (by omega), if_pos (by omega), if_pos (by omega), if_neg (by simp), wrap_next j (by omega)]
    exact same_loop l hl m (j + 1) k (by omega) (by omega)
theorem same_refl (l : List S38) (hl : l.length ≤ 100000) (n i : Int) (t : ByteArray) (k : Nat) (hk : l.length < k) : glacisref05_Same.f k n i t l n i t l = some true := by
  unfold glacisref05_Same.f glacisref05_SameParams.f
  rw [if_pos rfl]
  have := same_loop l hl l.length 0 k (by omega) hk
  rw [show ((0 : Nat) : Int) = 0 from rfl] at this
  rw [this]
  simp only [Option.bind_some]
  rw [if_pos trivial, if_pos trivial, if_pos trivial]
  simp
theorem pt_count {u : List UInt8} {l l1 : List S38} (h : PT u l l1) : l1.length ≤ l.length + u.length := by
  induction h with
  | nil => simp
  | flag b k u l l1 hb hk h ih =>
    have := withP_len (B k) l ⟨B k, 6, 1, ⟨#[]⟩⟩
    simp only [List.length_cons, List.length_append]; omega
  | val b k w u n i t l l1 hb hk hv h ih =>
    have := withP_len (B k) l ⟨B k, n, i, B t⟩
    simp only [List.length_cons, List.length_append]; omega
theorem it_count {u : List UInt8} {n i : Int} {t : List UInt8} {l : List S38} (h : IT u n i t l) : l.length ≤ u.length := by
  obtain ⟨a, b, rfl, hv, hp⟩ := h
  have := pt_count hp
  simp at this ⊢; omega
end Go.Proofs.YtbbaokjkmcfceaaDoor.Pl
