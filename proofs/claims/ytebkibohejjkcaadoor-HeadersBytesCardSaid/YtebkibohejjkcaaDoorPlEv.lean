/- What ends: for all rounds from some number on, a function with rounds gives one answer. -/
import Derived.Test.YtebkibohejjkcaaDoorQx0
namespace Go.Proofs.YtebkibohejjkcaaDoor.Pl
set_option linter.unusedVariables false
set_option linter.unusedSimpArgs false
open Go.RowKit

def Evn {α : Type} (g : Nat → Option α) (r : α) : Prop := ∃ K, ∀ k, K ≤ k → g k = some r
theorem Evn.ret {α : Type} {x : Option α} {r : α} (h : x = some r) : Evn (fun _ => x) r := ⟨0, fun _ _ => h⟩
theorem Evn.some {α : Type} (r : α) : Evn (fun _ => some r) r := ⟨0, fun _ _ => rfl⟩
theorem Evn.bind {α β : Type} {g : Nat → Option α} {f : Nat → α → Option β} {a : α} {r : β} (hg : Evn g a) (hf : Evn (fun k => f k a) r) : Evn (fun k => (g k).bind (f k)) r := by
  obtain ⟨K, h⟩ := hg
  obtain ⟨L, h'⟩ := hf
  refine ⟨max K L, fun k hk => ?_⟩
  show (g k).bind (f k) = _
  rw [h k (by omega)]
  exact h' k (by omega)
theorem Evn.succ {α : Type} {g : Nat → Option α} {r : α} (h : Evn (fun k => g (k + 1)) r) : Evn g r := by
  obtain ⟨K, h⟩ := h
  refine ⟨K + 1, fun k hk => ?_⟩
  have h1 : g (k - 1 + 1) = Option.some r := h (k - 1) (by omega)
  rwa [Nat.sub_add_cancel (by omega)] at h1
theorem Evn.congr {α : Type} {g g' : Nat → Option α} {r : α} (h : Evn g' r) (e : ∀ k, g k = g' k) : Evn g r := by
  obtain ⟨K, h⟩ := h
  exact ⟨K, fun k hk => (e k).trans (h k hk)⟩
theorem Evn.ex {α : Type} {g : Nat → Option α} {r : α} (h : Evn g r) : ∃ k, g k = Option.some r := by
  obtain ⟨K, h⟩ := h
  exact ⟨K, h K (Nat.le_refl _)⟩
theorem Evn.mono {α : Type} {g : Nat → Option α} {r : α} {k : Nat} (h : g k = Option.some r) (hm : ∀ k, g k = Option.some r → g (k + 1) = Option.some r) : Evn g r := by
  refine ⟨k, fun j hj => ?_⟩
  induction j with
  | zero => rw [show k = 0 by omega] at h; exact h
  | succ j ih =>
    rcases Nat.lt_or_ge j k with h1 | h1
    · rw [show j + 1 = k by omega]; exact h
    · exact hm j (ih h1)
theorem Evn.iff_pos {α : Type} {c : Prop} [Decidable c] {a b : Nat → Option α} {r : α} (hc : c) (h : Evn a r) : Evn (fun k => if c then a k else b k) r := h.congr fun k => if_pos hc
theorem Evn.iff_neg {α : Type} {c : Prop} [Decidable c] {a b : Nat → Option α} {r : α} (hc : ¬ c) (h : Evn b r) : Evn (fun k => if c then a k else b k) r := h.congr fun k => if_neg hc
theorem Evn.unique {α : Type} {g : Nat → Option α} {r r' : α} (h : Evn g r) (h' : Evn g r') : r = r' := by
  obtain ⟨K, h⟩ := h
  obtain ⟨L, h'⟩ := h'
  have h1 := h (max K L) (by omega)
  have h2 := h' (max K L) (by omega)
  exact Option.some.inj (h1.symm.trans h2)
theorem wr64 {x : Int} (h0 : -9223372036854775808 ≤ x) (h1 : x ≤ 9223372036854775807) : wrap64 x = x := IntWalk.wrap64_in x ⟨h0, h1⟩
end Go.Proofs.YtebkibohejjkcaaDoor.Pl
