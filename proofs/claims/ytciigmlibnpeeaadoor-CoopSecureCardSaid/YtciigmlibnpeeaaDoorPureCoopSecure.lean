/- CoopSecure, in plain terms: without a secure context no policy is there; lines of other names change none. -/
import Derived.Test.YtciigmlibnpeeaaDoorQx8
import Derived.Test.YtciigmlibnpeeaaDoorPl08Awake
namespace Go.Proofs.YtciigmlibnpeeaaDoor.Pure
set_option linter.unusedVariables false
set_option linter.unusedSimpArgs false
open Go.RowKit Go.Proofs.YtciigmlibnpeeaaDoor.Pl Go.Proofs.YtciigmlibnpeeaaDoor.Q Go.Proofs.YtciigmlibnpeeaaDoor.Sf Go.Proofs.YtciigmlibnpeeaaDoorW.PrintWords Go.Proofs.YtciigmlibnpeeaaDoorW.PrintLast
theorem more_vals (l : List S33) (h : S33) (n : Nat) (name : ByteArray) (hn : foldEq h.f0 name = false) : valsOf (l.take n ++ [h] ++ l.drop n) name = valsOf l name := by
  rw [vals_append, vals_append, vals_none [h] name (fun x hx => by obtain rfl := List.mem_singleton.1 hx; exact hn), List.append_nil, ← vals_append, List.take_append_drop]
theorem secure_j3 (l : List S33) (h : S33) (x : Int) (hx : 0 ≤ x) (hs : Small (l ++ [h]) 100 4000) (h1 : foldEq h.f0 nCoop = false) (h2 : foldEq h.f0 nCoopR = false) (h3 : foldEq h.f0 nCoep = false) (h4 : foldEq h.f0 nCoepR = false) (k : Nat) :
    glacislaw08_CoopSecure.j3 (k + 1) l x true h.f0 h.f1 = some true := by
  have hl : l.length ≤ 99 := by have := hs.1; rw [List.length_append] at this; simp at this; omega
  have hls : Small l 1000 5000 := ⟨by omega, fun y hy => ⟨(hs.2 y (List.mem_append.2 (Or.inl hy))).1, by have := (hs.2 y (List.mem_append.2 (Or.inl hy))).2; omega⟩⟩
  rw [glacislaw08_CoopSecure.j3]
  have ew : wrap64 ((l.length : Int) + 1) = (l.length : Int) + 1 := wr64 (by omega) (by omega)
  rw [ew, if_neg (by omega)]
  have t0 : 0 ≤ Int.tmod x ((l.length : Int) + 1) := Int.tmod_nonneg _ hx
  have t1 : Int.tmod x ((l.length : Int) + 1) ≤ (l.length : Int) := by
    have := Int.tmod_lt_of_pos x (show (0 : Int) < (l.length : Int) + 1 by omega); omega
  generalize Int.tmod x ((l.length : Int) + 1) = n at *
  have hms : Small (l.take n.toNat ++ [h] ++ l.drop n.toNat) 1000 5000 := by
    refine ⟨by simp only [List.length_append, List.length_take, List.length_drop, List.length_cons, List.length_nil]; omega, fun y hy => ?_⟩
    have hy2 : y ∈ l ++ [h] := by
      rcases List.mem_append.1 hy with hy | hy
      · rcases List.mem_append.1 hy with hy | hy
        · exact List.mem_append.2 (Or.inl (List.mem_of_mem_take hy))
        · exact List.mem_append.2 (Or.inr hy)
      · exact List.mem_append.2 (Or.inl (List.mem_of_mem_drop hy))
    exact ⟨(hs.2 y hy2).1, by have := (hs.2 y hy2).2; omega⟩
  have e1 := word_vals hms hls nCoop (by decide) (more_vals l h n.toNat nCoop h1)
  have e2 := word_vals hms hls nCoopR (by decide) (more_vals l h n.toNat nCoopR h2)
  have e3 := word_vals hms hls nCoep (by decide) (more_vals l h n.toNat nCoep h3)
  have e4 := word_vals hms hls nCoepR (by decide) (more_vals l h n.toNat nCoepR h4)
  have c1 := coop_f hms
  have c2 := coep_f hms
  rw [e1, e2, e3, e4] at c1
  rw [e3, e4] at c2
  rw [Option.bind_some, if_pos t0, if_pos t1, Option.bind_some, if_pos (by simp only [List.length_append, List.length_take, List.length_nil]; omega), Option.bind_some, Option.bind_some,
    if_pos (by simp only [List.length_append, List.length_take, List.length_nil, List.length_cons]; omega), Option.bind_some, Option.bind_some,
    if_pos (by simp only [List.length_append, List.length_take, List.length_drop, List.length_nil, List.length_cons]; omega), Option.bind_some, if_pos rfl, List.nil_append]
  rw [coop_f hls, Option.bind_some]
  show Option.bind (coop_Coop.f (l.take n.toNat ++ [h] ++ l.drop n.toNat) true) _ = _
  rw [c1, Option.bind_some, if_pos (by simp), coep_f hls, Option.bind_some]
  show Option.bind (coop_Coep.f (l.take n.toNat ++ [h] ++ l.drop n.toNat) true) _ = _
  rw [c2, Option.bind_some]
  simp
theorem other_name {s nm : ByteArray} {u : List UInt8} (hn : ¬ (lowBA s).toList = u) (e : (lowBA nm).toList = u) : foldEq s nm = false := by
  cases hf : foldEq s nm with
  | false => rfl
  | true => exact absurd (by rw [(foldEq_iff s nm).1 hf]; exact e) hn
theorem low_lists : (lowBA nCoop).toList = ([99, 114, 111, 115, 115, 45, 111, 114, 105, 103, 105, 110, 45, 111, 112, 101, 110, 101, 114, 45, 112, 111, 108, 105, 99, 121] : List UInt8) ∧ (lowBA nCoep).toList = ([99, 114, 111, 115, 115, 45, 111, 114, 105, 103, 105, 110, 45, 101, 109, 98, 101, 100, 100, 101, 114, 45, 112, 111, 108, 105, 99, 121] : List UInt8) ∧ (lowBA nCoopR).toList = ([99, 114, 111, 115, 115, 45, 111, 114, 105, 103, 105, 110, 45, 111, 112, 101, 110, 101, 114, 45, 112, 111, 108, 105, 99, 121, 45, 114, 101, 112, 111, 114, 116, 45, 111, 110, 108, 121] : List UInt8) ∧ (lowBA nCoepR).toList = ([99, 114, 111, 115, 115, 45, 111, 114, 105, 103, 105, 110, 45, 101, 109, 98, 101, 100, 100, 101, 114, 45, 112, 111, 108, 105, 99, 121, 45, 114, 101, 112, 111, 114, 116, 45, 111, 110, 108, 121] : List UInt8) := by
  refine ⟨?_, ?_, ?_, ?_⟩ <;> (rw [Lib.toList_data]; decide +kernel)
theorem secure_j2 (l : List S33) (h : S33) (x : Int) (h0 : -9223372036854775808 ≤ x) (hx : x ≤ 9223372036854775807) (k : Nat) (b : Bool) (hj : b = false → ∀ y : Int, 0 ≤ y → glacislaw08_CoopSecure.j3 (k + 1) l y true h.f0 h.f1 = some true) :
    glacislaw08_CoopSecure.j2 (k + 2) l x true b h.f0 h.f1 = some true := by
  rw [show k + 2 = (k + 1) + 1 from rfl, glacislaw08_CoopSecure.j2]
  cases b with
  | true => rw [if_pos rfl]
  | false =>
    rw [if_neg (by decide)]
    by_cases hn : x < 0
    · have ew : wrap64 (-(wrap64 (x + 1))) = -(x + 1) := by
        rw [wr64 (x := x + 1) (by omega) (by omega), wr64 (by omega) (by omega)]
      rw [if_pos hn, ew]
      exact hj rfl _ (by omega)
    · rw [if_neg hn]
      exact hj rfl _ (by omega)
theorem secure_j1 (l : List S33) (h : S33) (x : Int) (h0 : -9223372036854775808 ≤ x) (hx : x ≤ 9223372036854775807) (hs : Small (l ++ [h]) 100 4000) (k : Nat) :
    glacislaw08_CoopSecure.j1 (k + 3) l x true false h.f0 h.f1 = some true := by
  have hz := (hs.2 h (List.mem_append.2 (Or.inr List.mem_cons_self))).1
  obtain ⟨l1, l2, l3, l4⟩ := low_lists
  rw [show k + 3 = (k + 2) + 1 from rfl, glacislaw08_CoopSecure.j1, if_neg (by decide), lower_f h.f0 hz, Option.bind_some]
  by_cases c1 : (lowBA h.f0).toList = ([99, 114, 111, 115, 115, 45, 111, 114, 105, 103, 105, 110, 45, 111, 112, 101, 110, 101, 114, 45, 112, 111, 108, 105, 99, 121] : List UInt8)
  · rw [if_pos c1]; exact secure_j2 l h x h0 hx k true (fun e => by cases e)
  · rw [if_neg c1]
    by_cases c2 : (lowBA h.f0).toList = ([99, 114, 111, 115, 115, 45, 111, 114, 105, 103, 105, 110, 45, 101, 109, 98, 101, 100, 100, 101, 114, 45, 112, 111, 108, 105, 99, 121] : List UInt8)
    · rw [if_pos c2]; exact secure_j2 l h x h0 hx k true (fun e => by cases e)
    · rw [if_neg c2]
      by_cases c3 : (lowBA h.f0).toList = ([99, 114, 111, 115, 115, 45, 111, 114, 105, 103, 105, 110, 45, 111, 112, 101, 110, 101, 114, 45, 112, 111, 108, 105, 99, 121, 45, 114, 101, 112, 111, 114, 116, 45, 111, 110, 108, 121] : List UInt8)
      · rw [if_pos c3]; exact secure_j2 l h x h0 hx k true (fun e => by cases e)
      · rw [if_neg c3]
        refine secure_j2 l h x h0 hx k _ (fun e y hy => secure_j3 l h y hy hs (other_name c1 l1) (other_name c3 l3) (other_name c2 l2) ?_ k)
        exact other_name (fun c => by rw [c] at e; simp at e) l4
theorem CoopSecureAll (l : List S33) (a b : ByteArray) (x : Int) (hl : l.length * 32 ≤ 140737488351232) (h0 : -9223372036854775808 ≤ x) (hx : x ≤ 9223372036854775807) : ∃ k, glacislaw08_CoopSecure.f k l a b x = some true := by
  apply Evn.ex
  unfold glacislaw08_CoopSecure.f
  refine Evn.bind awake8 ?_
  refine Evn.bind (a := []) (Evn.ret rfl) ?_
  refine Evn.iff_pos (by simp; omega) ?_
  refine Evn.bind (a := l) (Evn.ret (by simp)) ?_
  refine Evn.bind (a := [⟨a, b⟩]) (Evn.ret rfl) ?_
  refine Evn.iff_pos (by simp; omega) ?_
  refine Evn.bind (few8_f (l ++ [⟨a, b⟩])) ?_
  cases hf : few8s (l ++ [⟨a, b⟩]) with
  | false =>
    refine Evn.iff_neg (by decide) ?_
    exact Evn.succ ⟨0, fun k _ => by show glacislaw08_CoopSecure.j0 (k + 1) l x true true a b = some true; rw [glacislaw08_CoopSecure.j0, if_pos rfl]⟩
  | true =>
    have hs := small_few hf
    refine Evn.iff_pos rfl ?_
    by_cases h9 : (l.length : Int) > 90
    · rw [decide_eq_true h9]
      exact Evn.succ ⟨0, fun k _ => by show glacislaw08_CoopSecure.j0 (k + 1) l x true true a b = some true; rw [glacislaw08_CoopSecure.j0, if_pos rfl]⟩
    · rw [decide_eq_false h9]
      refine ⟨4, fun k hk => ?_⟩
      obtain ⟨k, rfl⟩ : ∃ j, k = j + 4 := ⟨k - 4, by omega⟩
      show glacislaw08_CoopSecure.j0 ((k + 3) + 1) l x true false a b = some true
      rw [glacislaw08_CoopSecure.j0, if_neg (by decide), coop_off, Option.bind_some, if_neg (by simp only [nil_list]; decide), coep_off, Option.bind_some]
      simp only [nil_list]
      exact secure_j1 l ⟨a, b⟩ x h0 hx hs k
theorem CoopSecure : ∀ (a0 : List S33) (a1_0 a1_1 : ByteArray) (a2 : Int), a0.length * 32 ≤ 140737488351232 → (∀ x ∈ a0, x.f0.size ≤ 140737488351232 ∧ x.f1.size ≤ 140737488351232) → a1_0.size ≤ 140737488351232 → a1_1.size ≤ 140737488351232 → (Lit.int .i64 a2).wf = true → ∃ k, glacislaw08_CoopSecure.f k a0 a1_0 a1_1 a2 = some true :=
  fun l a b x hl _ _ _ hw => by
    have hw2 : -9223372036854775808 ≤ x ∧ x ≤ 9223372036854775807 := by
      have := hw
      simp [Lit.wf] at this
      have m1 : IntKind.i64.min = -9223372036854775808 := by decide
      have m2 : IntKind.i64.max = 9223372036854775807 := by decide
      omega
    exact CoopSecureAll l a b x hl hw2.1 hw2.2
end Go.Proofs.YtciigmlibnpeeaaDoor.Pure
