/- HeadersBytes, in plain terms: a line with a byte that may not be, or a name that is no token, makes lines wrong; without one they may be. -/
import Derived.Test.YtebkibohejjkcaaDoorQx4
import Derived.Test.YtebkibohejjkcaaDoorPlFew07
namespace Go.Proofs.YtebkibohejjkcaaDoor.Pure
set_option linter.unusedVariables false
set_option linter.unusedSimpArgs false
open Go.RowKit Go.Proofs.YtebkibohejjkcaaDoor.Q Go.Proofs.YtebkibohejjkcaaDoor.Pl Go.Proofs.YtebkibohejjkcaaDoorW.PrintWords Go.Proofs.YtebkibohejjkcaaDoorW.PrintLast
/-- The value behind which the byte stands, and one more. -/
def valX (a : ByteArray) (c : Int) : ByteArray := (a ++ strOfNums [c]) ++ (⟨#[120]⟩ : ByteArray)
theorem valX_size (a : ByteArray) (c : Int) : (valX a c).size = a.size + 2 := by
  unfold valX
  rw [ByteArray.size_append, ByteArray.size_append]
  rfl
theorem valX_at (a : ByteArray) (c : Int) (h0 : 0 ≤ c) (h1 : c ≤ 255) : bt (valX a c) (a.size : Int) = c := by
  rw [bt_nat]
  have e : (valX a c).data.toList = a.data.toList ++ (UInt8.ofNat c.toNat :: [120]) := by
    unfold valX strOfNums
    simp
  have hl : a.data.toList.length = a.size := (Lib.size_eq a).symm
  rw [e, List.getD_eq_getElem?_getD, List.getElem?_append_right (by omega), hl]
  simp
  omega
theorem ok_line (n v : ByteArray) (hv : v.size ≤ 4000) : okH ⟨n, v⟩ = (tokB n && !badB v) := by
  unfold okH
  simp [hv]
theorem chk_more (l : List S24) (h : S24) (hl : l.length ≤ 90) (h0 : chkOf l = 0) : chkOf (l ++ [h]) = if okH h = true then 0 else 70 := by
  unfold chkOf at h0 ⊢
  split at h0
  · rename_i hc
    rw [List.all_append, hc.2, List.length_append, List.all_cons, List.all_nil]
    simp only [Bool.true_and, Bool.and_true, List.length_cons, List.length_nil]
    by_cases ho : okH h = true
    · rw [if_pos ⟨by omega, ho⟩, if_pos ho]
    · rw [if_neg (fun q => ho q.2), if_neg ho]
  · cases h0
theorem chk_drop (l : List S24) (h0 : chkOf l = 0) : chkOf (l.drop 1) = 0 := by
  unfold chkOf at h0 ⊢
  split at h0
  · rename_i hc
    refine if_pos ⟨by rw [List.length_drop]; omega, ?_⟩
    rw [List.all_eq_true] at hc ⊢
    exact fun x hx => hc.2 x (List.mem_of_mem_drop hx)
  · cases h0
theorem bytes_end (l : List S24) (n v : ByteArray) (hn : n.size ≤ 1000) (hv : v.size ≤ 4000) (hl : l.length ≤ 90) (h0 : chkOf l = 0) (hs : ∀ x ∈ l, x.f0.size ≤ 281474976710656) (b : Bool) (hb : b = badB v) :
    Evn (fun k => glacislaw07_HeadersBytes.l0 k l true b (v.size : Int) n v) true := by
  refine Evn.succ ?_
  simp only [glacislaw07_HeadersBytes.l0]
  refine Evn.iff_neg (by omega) ?_
  refine Evn.bind (token n (by omega)) ?_
  refine Evn.bind (a := []) (Evn.ret rfl) ?_
  refine Evn.iff_pos (by simp; omega) ?_
  refine Evn.bind (a := l) (Evn.ret (by simp)) ?_
  refine Evn.bind (a := [⟨n, v⟩]) (Evn.ret rfl) ?_
  refine Evn.iff_pos (by simp; omega) ?_
  refine Evn.bind (check (l ++ [⟨n, v⟩]) (fun x hx => by
    rcases List.mem_append.1 hx with hx | hx
    · exact hs x hx
    · obtain rfl := List.mem_singleton.1 hx
      show n.size ≤ 281474976710656
      omega)) ?_
  rw [chk_more l _ hl h0, ok_line n v hv, ← hb]
  have hend : ∀ t : Bool, (if t = true then (some (((if (t && !b) = true then (0 : Int) else 70) == 0) == (!b))) else (some (((if (t && !b) = true then (0 : Int) else 70) == 0) == false))) = some true := by
    intro t
    cases t <;> cases b <;> decide
  by_cases h1 : (l.length : Int) > 0
  · refine Evn.iff_pos h1 (Evn.iff_pos (by omega) ?_)
    refine Evn.bind (check (l.drop 1) (fun x hx => hs x (List.mem_of_mem_drop hx))) ?_
    refine Evn.iff_pos trivial (Evn.iff_pos (chk_drop l h0) ?_)
    exact Evn.ret (hend _)
  · refine Evn.iff_neg h1 (Evn.iff_pos trivial (Evn.iff_pos trivial ?_))
    exact Evn.ret (hend _)
theorem bytes_l0 (l : List S24) (n v : ByteArray) (hn : n.size ≤ 1000) (hv : v.size ≤ 4000) (hl : l.length ≤ 90) (h0 : chkOf l = 0) (hs : ∀ x ∈ l, x.f0.size ≤ 281474976710656) :
    ∀ (d i : Nat) (b : Bool), v.size - i = d → i ≤ v.size → (b = true → badB v = true) → (b = false → ∀ j : Nat, j < i → badC (bt v j) = false) → Evn (fun k => glacislaw07_HeadersBytes.l0 k l true b (i : Int) n v) true := by
  intro d
  induction d with
  | zero =>
    intro i b hd hi h1 h2
    obtain rfl : i = v.size := by omega
    refine bytes_end l n v hn hv hl h0 hs b ?_
    cases b with
    | true => exact (h1 rfl).symm
    | false => exact (badB_of (h2 rfl)).symm
  | succ d ih =>
    intro i b hd hi h1 h2
    have hlt : i < v.size := by omega
    refine Evn.succ ?_
    simp only [glacislaw07_HeadersBytes.l0]
    refine Evn.iff_pos (by omega) ?_
    have ew : wrap64 ((i : Int) + 1) = ((i + 1 : Nat) : Int) := by rw [wr64 (by omega) (by omega)]; omega
    rw [ew]
    cases b with
    | true => exact Evn.iff_pos rfl (ih (i + 1) true (by omega) (by omega) h1 (fun h => by cases h))
    | false =>
      refine Evn.iff_neg (by decide) (Evn.iff_pos (by omega) ?_)
      by_cases c0 : bt v (i : Int) = 0
      · exact Evn.iff_pos c0 (ih (i + 1) true (by omega) (by omega) (fun _ => badB_true i hlt (by rw [c0]; decide)) (fun h => by cases h))
      · refine Evn.iff_neg c0 ?_
        by_cases c1 : bt v (i : Int) = 10
        · exact Evn.iff_pos c1 (ih (i + 1) true (by omega) (by omega) (fun _ => badB_true i hlt (by rw [c1]; decide)) (fun h => by cases h))
        · refine Evn.iff_neg c1 ?_
          refine ih (i + 1) _ (by omega) (by omega) (fun h => badB_true i hlt (by rw [beq_iff_eq.1 h]; decide)) (fun h j hj => ?_)
          rcases Nat.lt_or_ge j i with hj2 | hj2
          · exact h2 rfl j hj2
          · obtain rfl : j = i := by omega
            unfold badC
            rw [beq_eq_false_iff_ne.mpr c0, beq_eq_false_iff_ne.mpr c1, h]
            rfl
theorem bytes_j1 (l : List S24) (n a : ByteArray) (c : Int) (hc0 : 0 ≤ c) (hc1 : c ≤ 255) (hn : n.size ≤ 1000) (ha : a.size ≤ 3000) (hl : l.length ≤ 90) (h0 : chkOf l = 0) (hs : ∀ x ∈ l, x.f0.size ≤ 281474976710656) (b : Bool) (hb : b = true → badC c = true) :
    Evn (fun k => glacislaw07_HeadersBytes.j1 k l true b n (valX a c)) true := by
  refine Evn.succ ?_
  simp only [glacislaw07_HeadersBytes.j1]
  have hz := valX_size a c
  exact bytes_l0 l n (valX a c) hn (by omega) hl h0 hs _ 0 b rfl (by omega) (fun h => badB_true a.size (by omega) (by rw [valX_at a c hc0 hc1]; exact hb h)) (fun _ j hj => by omega)
theorem bytes_j0 (l : List S24) (n a : ByteArray) (c : Int) (hc0 : 0 ≤ c) (hc1 : c ≤ 255) (hn : n.size ≤ 1000) (ha : a.size ≤ 3000) (hl : l.length ≤ 90) (h0 : chkOf l = 0) (hs : ∀ x ∈ l, x.f0.size ≤ 281474976710656) :
    Evn (fun k => glacislaw07_HeadersBytes.j0 k l c true false n a) true := by
  refine Evn.succ ?_
  simp only [glacislaw07_HeadersBytes.j0]
  have z1 : (strOfNums [c]).size = 1 := rfl
  refine Evn.iff_neg (by decide) ?_
  refine Evn.bind (a := [c]) (Evn.ret rfl) ?_
  refine Evn.iff_pos (by omega) (Evn.iff_pos (by rw [ByteArray.size_append]; omega) ?_)
  by_cases c0 : c = 0
  · exact Evn.iff_pos c0 (bytes_j1 l n a c hc0 hc1 hn ha hl h0 hs true (fun _ => by rw [c0]; decide))
  · refine Evn.iff_neg c0 ?_
    by_cases c1 : c = 10
    · exact Evn.iff_pos c1 (bytes_j1 l n a c hc0 hc1 hn ha hl h0 hs true (fun _ => by rw [c1]; decide))
    · exact Evn.iff_neg c1 (bytes_j1 l n a c hc0 hc1 hn ha hl h0 hs _ (fun h => by rw [beq_iff_eq.1 h]; decide))
theorem HeadersBytesAll (l : List S24) (n a : ByteArray) (c : Int) (hll : l.length * 32 ≤ 140737488351232) (hsz : ∀ x ∈ l, x.f0.size ≤ 140737488351232 ∧ x.f1.size ≤ 140737488351232) (hc0 : 0 ≤ c) (hc1 : c ≤ 255) : ∃ k, glacislaw07_HeadersBytes.f k l n a c = some true := by
  apply Evn.ex
  unfold glacislaw07_HeadersBytes.f
  refine Evn.bind awake07 ?_
  refine Evn.bind (a := []) (Evn.ret rfl) ?_
  refine Evn.iff_pos (by simp; omega) ?_
  refine Evn.bind (a := l) (Evn.ret (by simp)) ?_
  refine Evn.bind (a := [⟨n, a⟩]) (Evn.ret rfl) ?_
  refine Evn.iff_pos (by simp; omega) ?_
  refine Evn.bind (fewa (l ++ [⟨n, a⟩])) ?_
  have out : Evn (fun k => glacislaw07_HeadersBytes.j0 k l c true true n a) true := by
    refine Evn.succ ?_
    simp only [glacislaw07_HeadersBytes.j0]
    exact Evn.iff_pos trivial (Evn.some _)
  cases hf : fewA (l ++ [⟨n, a⟩]) with
  | false => exact Evn.iff_neg (by decide) out
  | true =>
    rw [fewA_iff] at hf
    have hn : n.size ≤ 1000 := (hf.2 ⟨n, a⟩ (List.mem_append.2 (Or.inr List.mem_cons_self))).1
    have hs : ∀ x ∈ l, x.f0.size ≤ 281474976710656 := fun x hx => by have := (hsz x hx).1; omega
    refine Evn.iff_pos rfl ?_
    by_cases h9 : (l.length : Int) > 90
    · exact Evn.iff_pos h9 out
    · refine Evn.iff_neg h9 ?_
      by_cases h3 : (a.size : Int) > 3000
      · exact Evn.iff_pos h3 out
      · refine Evn.iff_neg h3 ?_
        refine Evn.bind (check l hs) ?_
        by_cases h0 : chkOf l = 0
        · rw [h0]
          exact bytes_j0 l n a c hc0 hc1 hn (by omega) (by omega) h0 hs
        · rw [bne_iff_ne.mpr h0]
          exact out
theorem HeadersBytes : ∀ (a0 : List S24) (a1_0 a1_1 : ByteArray) (a2 : Int), a0.length * 32 ≤ 140737488351232 → (∀ x ∈ a0, x.f0.size ≤ 140737488351232 ∧ x.f1.size ≤ 140737488351232) → a1_0.size ≤ 140737488351232 → a1_1.size ≤ 140737488351232 → (Lit.int .u8 a2).wf = true → ∃ k, glacislaw07_HeadersBytes.f k a0 a1_0 a1_1 a2 = some true :=
  fun l n a c hll hsz _ _ hw => by
    have hw2 : 0 ≤ c ∧ c ≤ 255 := by
      have := hw
      simp [Lit.wf] at this
      have m1 : IntKind.u8.min = 0 := by decide
      have m2 : IntKind.u8.max = 255 := by decide
      omega
    exact HeadersBytesAll l n a c hll hsz hw2.1 hw2.2
end Go.Proofs.YtebkibohejjkcaaDoor.Pure
