/- A resource policy in one line is told by its very bytes; in two lines it is none: over the printed functions. -/
import Derived.Test.YtbhokhidlgkakaaDoorPlAwake09
namespace Go.Proofs.YtbhokhidlgkakaaDoor.Pure
set_option linter.unusedVariables false
set_option linter.unusedSimpArgs false
open Go.RowKit Go.Proofs.YtbhokhidlgkakaaDoor.B Go.Proofs.YtbhokhidlgkakaaDoor.Pl Go.Proofs.YtbhokhidlgkakaaDoorW.PrintWords Go.Proofs.YtbhokhidlgkakaaDoorW.PrintLast
def corpH (v : ByteArray) : S28 := ⟨corpName, v⟩
theorem corp_row (v : ByteArray) : glacislaw09_corp.f v = some ((corpH v).f0, (corpH v).f1) := rfl
theorem corpH_name : foldEq corpName corpName = true := by kernel_rfl
theorem valsOf_corp (l : List ByteArray) : valsOf (l.map corpH) corpName = l.map trimBA := by
  unfold valsOf
  rw [List.filter_eq_self.2, List.map_map]
  · rfl
  · intro x hx
    obtain ⟨v, _, rfl⟩ := List.mem_map.1 hx
    exact corpH_name
theorem corp_of {l : List ByteArray} (hl : l.length ≤ 10) (hv : ∀ v ∈ l, v.size ≤ 4000) : embedhdr_Corp.f (l.map corpH) = some (corpOf (joinBA (l.map trimBA) comSp)) := by
  rw [corp_f (n := 10) (m := 4000) ⟨by rw [List.length_map]; exact hl, fun x hx => ?_⟩ (by omega) (by omega), valsOf_corp]
  obtain ⟨v, hv', rfl⟩ := List.mem_map.1 hx
  exact ⟨by show (28 : Nat) ≤ _; omega, hv v hv'⟩
theorem corp_comma (x : ByteArray) (h : (44 : UInt8) ∈ x.data.toList) : corpOf x = 0 := by
  unfold corpOf
  rw [if_neg, if_neg, if_neg]
  · intro e
    rw [e] at h
    revert h
    decide
  · intro e
    rw [e] at h
    revert h
    decide
  · intro e
    rw [e] at h
    revert h
    decide
theorem EmbedhdrBytes : ∀ (a0 a1 : ByteArray), a0.size ≤ 140737488351232 → a1.size ≤ 140737488351232 → ∃ k, glacislaw09_EmbedhdrBytes.f k a0 a1 = some true := by
  intro s t _ _
  refine Evn.ex (g := fun k => glacislaw09_EmbedhdrBytes.f k s t) ?_
  unfold glacislaw09_EmbedhdrBytes.f
  refine Evn.bind awake09 ?_
  have out : Evn (fun k => glacislaw09_EmbedhdrBytes.j0 k s t true true) true := by
    refine Evn.succ ?_
    simp only [glacislaw09_EmbedhdrBytes.j0]
    exact Evn.iff_pos (by simp) (Evn.some _)
  by_cases h0 : s.size ≤ 4000
  · refine Evn.iff_neg (by omega) ?_
    by_cases h1 : t.size ≤ 4000
    · rw [show decide ((t.size : Int) > 4000) = false by simp; omega]
      have c1 := corp_of (l := [s]) (by simp) (by simpa using h0)
      have c2 := corp_of (l := [s, t]) (by simp) (by
        intro v hv
        rcases List.mem_cons.1 hv with rfl | hv
        · exact h0
        · rw [List.mem_singleton] at hv
          subst hv
          exact h1)
      have e1 : joinBA ([s].map trimBA) comSp = trimBA s := by
        show joinBA ([] ++ [trimBA s]) comSp = _
        rw [join_snoc, if_pos rfl]
      have e2 : corpOf (joinBA ([s, t].map trimBA) comSp) = 0 := by
        refine corp_comma _ ?_
        show (44 : UInt8) ∈ (joinBA ([trimBA s] ++ [trimBA t]) comSp).data.toList
        rw [join_snoc, if_neg (by simp), ba_append, ba_append]
        refine List.mem_append_left _ (List.mem_append_right _ ?_)
        show (44 : UInt8) ∈ [44, 32]
        decide
      rw [e1] at c1
      rw [e2] at c2
      have j3 : Evn (fun k => glacislaw09_EmbedhdrBytes.j3 k s t true (corpOf (trimBA s))) true := by
        refine Evn.succ ?_
        simp only [glacislaw09_EmbedhdrBytes.j3]
        refine Evn.ret ?_
        simp only [corp_row, Option.bind_some]
        change (if True then (embedhdr_Corp.f ([s].map corpH)).bind fun t233 => if t233 = corpOf (trimBA s) then (embedhdr_Corp.f ([s, t].map corpH)).bind fun t241 => some (t241 == 0) else some false else some false) = _
        rw [c1, c2]
        simp
      have w1 : ∀ v : ByteArray, (v.toList = ([115, 97, 109, 101, 45, 111, 114, 105, 103, 105, 110] : List UInt8)) = (v = ⟨#[115, 97, 109, 101, 45, 111, 114, 105, 103, 105, 110]⟩) := fun v => by rw [← propext (toList_iff v _)]; simp only [Lib.toList_data]
      have w2 : ∀ v : ByteArray, (v.toList = ([115, 97, 109, 101, 45, 115, 105, 116, 101] : List UInt8)) = (v = ⟨#[115, 97, 109, 101, 45, 115, 105, 116, 101]⟩) := fun v => by rw [← propext (toList_iff v _)]; simp only [Lib.toList_data]
      have w3 : ∀ v : ByteArray, (v.toList = ([99, 114, 111, 115, 115, 45, 111, 114, 105, 103, 105, 110] : List UInt8)) = (v = ⟨#[99, 114, 111, 115, 115, 45, 111, 114, 105, 103, 105, 110]⟩) := fun v => by rw [← propext (toList_iff v _)]; simp only [Lib.toList_data]
      refine Evn.succ ?_
      simp only [glacislaw09_EmbedhdrBytes.j0]
      refine Evn.iff_neg (by simp) ?_
      rw [trim_f s (by omega)]
      simp only [Option.bind_some, w1]
      generalize trimBA s = v at *
      unfold corpOf at j3
      by_cases hv1 : v = ⟨#[115, 97, 109, 101, 45, 111, 114, 105, 103, 105, 110]⟩
      · refine Evn.iff_pos hv1 (Evn.succ ?_)
        simp only [glacislaw09_EmbedhdrBytes.j1, w2]
        refine Evn.iff_neg (by rw [hv1]; decide) (Evn.succ ?_)
        simp only [glacislaw09_EmbedhdrBytes.j2, w3]
        refine Evn.iff_neg (by rw [hv1]; decide) ?_
        rw [if_neg (by rw [hv1]; decide), if_neg (by rw [hv1]; decide), if_pos hv1] at j3
        exact j3
      · refine Evn.iff_neg hv1 (Evn.succ ?_)
        simp only [glacislaw09_EmbedhdrBytes.j1, w2]
        by_cases hv2 : v = ⟨#[115, 97, 109, 101, 45, 115, 105, 116, 101]⟩
        · refine Evn.iff_pos hv2 (Evn.succ ?_)
          simp only [glacislaw09_EmbedhdrBytes.j2, w3]
          refine Evn.iff_neg (by rw [hv2]; decide) ?_
          rw [if_neg (by rw [hv2]; decide), if_pos hv2] at j3
          exact j3
        · refine Evn.iff_neg hv2 (Evn.succ ?_)
          simp only [glacislaw09_EmbedhdrBytes.j2, w3]
          by_cases hv3 : v = ⟨#[99, 114, 111, 115, 115, 45, 111, 114, 105, 103, 105, 110]⟩
          · refine Evn.iff_pos hv3 ?_
            rw [if_pos hv3] at j3
            exact j3
          · refine Evn.iff_neg hv3 ?_
            rw [if_neg hv3, if_neg hv2, if_neg hv1] at j3
            exact j3
    · rw [show decide ((t.size : Int) > 4000) = true by simp; omega]
      exact out
  · exact Evn.iff_pos (by omega) out
end Go.Proofs.YtbhokhidlgkakaaDoor.Pure
