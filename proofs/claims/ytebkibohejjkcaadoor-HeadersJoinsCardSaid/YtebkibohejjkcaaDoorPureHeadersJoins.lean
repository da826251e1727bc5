/- Two lines of one name are one, with a comma and a blank between: over the printed functions. -/
import Derived.Test.YtebkibohejjkcaaDoorQx4
import Derived.Test.YtebkibohejjkcaaDoorPlFew07
import Derived.Test.YtebkibohejjkcaaDoorPlHTwice
namespace Go.Proofs.YtebkibohejjkcaaDoor.Pure
set_option linter.unusedVariables false
set_option linter.unusedSimpArgs false
open Go.RowKit Go.Proofs.YtebkibohejjkcaaDoor.Q Go.Proofs.YtebkibohejjkcaaDoor.Pl Go.Proofs.YtebkibohejjkcaaDoorW.PrintWords Go.Proofs.YtebkibohejjkcaaDoorW.PrintLast
theorem fold_self (n : ByteArray) : foldEq n n = true := by rw [foldEq_iff]
theorem valsOf_own (n : ByteArray) (l : List ByteArray) : valsOf (l.map (fun v => (⟨n, v⟩ : S24))) n = l.map trimBA := by
  unfold valsOf
  rw [List.filter_eq_self.2, List.map_map]
  · rfl
  · intro x hx
    obtain ⟨v, _, rfl⟩ := List.mem_map.1 hx
    exact fold_self n
theorem small_own (n : ByteArray) (l : List ByteArray) (hn : n.size ≤ 1000) (hl : l.length ≤ 10) (hv : ∀ v ∈ l, v.size ≤ 10000) : Small (l.map (fun v => (⟨n, v⟩ : S24))) 10 10000 := by
  refine ⟨by rw [List.length_map]; exact hl, fun x hx => ?_⟩
  obtain ⟨v, hv', rfl⟩ := List.mem_map.1 hx
  exact ⟨by show n.size ≤ _; omega, hv v hv'⟩
theorem HeadersJoins : ∀ (a0 a1 a2 : ByteArray), a0.size ≤ 140737488351232 → a1.size ≤ 140737488351232 → a2.size ≤ 140737488351232 → ∃ k, glacislaw07_HeadersJoins.f k a0 a1 a2 = some true := by
  intro n a b _ _ _
  refine Evn.ex (g := fun k => glacislaw07_HeadersJoins.f k n a b) ?_
  unfold glacislaw07_HeadersJoins.f
  refine Evn.bind awake07 ?_
  have out : Evn (fun k => glacislaw07_HeadersJoins.j0 k n a b true true) true := by
    refine Evn.succ ?_
    simp only [glacislaw07_HeadersJoins.j0]
    exact Evn.iff_pos (by simp) (Evn.some _)
  by_cases ha : a.size ≤ 2000
  · refine Evn.iff_neg (by omega) ?_
    by_cases hb : b.size ≤ 2000
    · refine Evn.iff_neg (by omega) ?_
      by_cases hn : n.size ≤ 1000
      · rw [show decide ((n.size : Int) > 1000) = false by simp; omega]
        have ta := trim_size a
        have tb := trim_size b
        have hs := small_own n [a, b] hn (by simp) (by
          intro v hv
          rcases List.mem_cons.1 hv with rfl | hv
          · omega
          · rw [List.mem_singleton] at hv
            subst hv
            omega)
        have c1 := combined_f hs (by omega) (by omega) n (by omega)
        have v1 := values_f hs (by omega) (by omega) n (by omega)
        rw [valsOf_own] at c1 v1
        have e1 : joinBA ([a, b].map trimBA) comSp = (trimBA a ++ comSp) ++ trimBA b := by
          show joinBA (([] ++ [trimBA a]) ++ [trimBA b]) comSp = _
          rw [join_snoc, if_neg (by simp), join_snoc, if_pos rfl]
        rw [e1] at c1
        have hsz : ((trimBA a ++ comSp) ++ trimBA b).size ≤ 10000 := by
          simp only [ByteArray.size_append]
          show (trimBA a).size + 2 + (trimBA b).size ≤ 10000
          omega
        have hs2 := small_own n [(trimBA a ++ comSp) ++ trimBA b] hn (by simp) (by
          intro v hv
          rw [List.mem_singleton] at hv
          subst hv
          exact hsz)
        have c2 := combined_f hs2 (by omega) (by omega) n (by omega)
        rw [valsOf_own] at c2
        have e2 : joinBA ([(trimBA a ++ comSp) ++ trimBA b].map trimBA) comSp = trimBA ((trimBA a ++ comSp) ++ trimBA b) := by
          show joinBA ([] ++ [trimBA ((trimBA a ++ comSp) ++ trimBA b)]) comSp = _
          rw [join_snoc, if_pos rfl]
        rw [e2] at c2
        refine Evn.succ ?_
        simp only [glacislaw07_HeadersJoins.j0]
        refine Evn.iff_neg (by simp) ?_
        refine Evn.ret ?_
        change (headers_Combined.f ([a, b].map (fun v => (⟨n, v⟩ : S24))) n).bind (fun bt139 => (headers_Values.f ([a, b].map (fun v => (⟨n, v⟩ : S24))) n).bind fun t144 => _) = _
        rw [c1, v1]
        simp only [Option.bind_some]
        rw [if_pos (by simp)]
        change (headers_Combined.f ([(trimBA a ++ comSp) ++ trimBA b].map (fun v => (⟨n, v⟩ : S24))) n).bind _ = _
        rw [c2]
        simp only [Option.bind_some]
        have r0 : rdOf ByteArray.empty ([a, b].map trimBA) 0 = trimBA a := rfl
        have r1 : rdOf ByteArray.empty ([a, b].map trimBA) 1 = trimBA b := rfl
        rw [r0, r1, trim_f _ (by omega)]
        have z1 : (trimBA a ++ (⟨#[44, 32]⟩ : ByteArray)).size = (trimBA a).size + 2 := by rw [ByteArray.size_append]; rfl
        rw [if_pos (by simp), if_pos (by simp), if_pos (by simp), if_pos (by simp), if_pos (by omega), if_pos (by simp), if_pos (by rw [z1]; omega), if_pos (show (trimBA a ++ comSp ++ trimBA b).toList = (trimBA a ++ (⟨#[44, 32]⟩ : ByteArray) ++ trimBA b).toList from rfl)]
        simp
      · rw [show decide ((n.size : Int) > 1000) = true by simp; omega]
        exact out
    · exact Evn.iff_pos (by omega) out
  · exact Evn.iff_pos (by omega) out
end Go.Proofs.YtebkibohejjkcaaDoor.Pure
