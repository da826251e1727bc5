/- Arguments that are slices of lines of a head, slices of texts, or one line: what a row reads is what the printed contracts ask. -/
import Derived.Test.YtebkibohejjkcaaDoorRc
import Derived.Test.YtebkibohejjkcaaDoorQx0
import Derived.Deep.SlicePairs
import Derived.Lib.SmallJoins
import Derived.Carry
namespace Go.Proofs.YtebkibohejjkcaaDoor.ro
set_option linter.unusedVariables false
set_option linter.unusedSimpArgs false
set_option maxRecDepth 100000
open Go.ChangeShapes Go.WideShapes Go.ChangeAt Go.RowKit Go.Deep
open Go.Proofs.YtebkibohejjkcaaDoor.Q Go.Proofs.YtebkibohejjkcaaDoorW.PrintWords Go.Proofs.YtebkibohejjkcaaDoorW.PrintLast
section
variable {H : Type} {enc : TypeId × Value → H} {W : World}
theorem ofList (b : List UInt8) : (ByteArray.mk b.toArray).data.toList = b := by simp
theorem weights_all {P : Program} {e : TypeId} : ∀ {l : List (DataW H)} {i : Nat} {d : DataW H}, l[i]? = some d → ∀ n ∈ d.weights P e, n ∈ DataW.weightsAll P e l
  | d0 :: l, 0, d, h, n, hn => by
    simp only [List.getElem?_cons_zero, Option.some.injEq] at h
    subst h
    simp only [DataW.weightsAll, List.mem_append]
    exact Or.inl hn
  | d0 :: l, i + 1, d, h, n, hn => by
    simp only [List.getElem?_cons_succ] at h
    simp only [DataW.weightsAll, List.mem_append]
    exact Or.inr (weights_all h n hn)
  | [], _, _, h, _, _ => by simp at h
theorem open_hdrs {base : Nat} {v : Value} {d : DataW H} {p : List MemPlace} (hv : Value.okWide Tryd.prog W .any base 25 v) (h : DataW.Trod enc Tryd.prog W 0 (fun _ => true) true 25 v d p)
    (hz : ∀ n ∈ d.weights Tryd.prog 25, n ≤ reachBytes) :
    ∃ (A : Option Addr) (c : Nat) (l : List S24), v = .slice A l.length c ∧ l.length ≤ c ∧ Kd.C k24 W A l.length l ∧ l.length * 32 ≤ reachBytes ∧ ∀ x ∈ l, x.f0.size ≤ reachBytes ∧ x.f1.size ≤ reachBytes := by
  obtain ⟨a0, len0, cap0, rfl⟩ := okWide_slice Tryd.underlying25 hv
  obtain ⟨fuel, hf⟩ := h
  rcases open_slice_pairs Tryd.underlying25 Tryd.underlying24 (show Tryd.prog.cellsOf 24 = 2 by kernel_rfl) rfl rfl (show Tryd.prog.cellsOf 9 = 1 by kernel_rfl) (show Tryd.prog.cellsOf 9 = 1 by kernel_rfl) hf with ⟨hc, _⟩ | ⟨a, len, cap, m, n, V0, V1, D0, D1, P0, P1, hc, _, hl, hm, hmm, hx, hall⟩
  · simp [Value.cells] at hc
    obtain ⟨rfl, rfl, rfl⟩ := hc
    exact ⟨none, 0, [], rfl, Nat.le_refl _, ⟨rfl, by simp, fun hn => absurd hn (by simp)⟩, by simp, fun x hx => by cases hx⟩
  · simp [Value.cells] at hc
    obtain ⟨rfl, e2, e3⟩ := hc
    rw [e2, e3]
    clear hv hf
    have hlm : len ≤ m := by rw [hmm]; simp; omega
    have hd : d = .slice ((List.range len).map fun i => .agg [D0 i, D1 i]) ((List.range (m - len)).map fun j => .agg [D0 (len + j), D1 (len + j)]) := by
      have := congrArg Prod.fst hx
      exact this
    have each : ∀ i, i < len → ∃ x : S24, V0 i = .string x.f0 ∧ V1 i = .string x.f1 ∧ D0 i = .lit (.string x.f0.data.toList) ∧ D1 i = .lit (.string x.f1.data.toList) := by
      intro i hi
      obtain ⟨_, _, h0, h1⟩ := hall i (by omega)
      obtain ⟨s0, e0, x0, _⟩ := DataW.trod_string Tryd.underlying9 h0
      obtain ⟨s1, e1, x1, _⟩ := DataW.trod_string Tryd.underlying9 h1
      simp only [List.cons.injEq, and_true] at e0 e1
      simp only [Prod.mk.injEq] at x0 x1
      exact ⟨⟨s0, s1⟩, e0, e1, x0.1, x1.1⟩
    haveI : Inhabited S24 := ⟨z24⟩
    obtain ⟨F, hF⟩ := choose_lt each
    have hlen : ((List.range len).map F).length = len := by simp
    refine ⟨some a, cap, (List.range len).map F, by rw [hlen], by rw [hlen]; exact hl, ⟨rfl, by rw [hlen]; have := hm; unfold maxLen at this; omega, fun _ => ⟨a, rfl, ?_⟩⟩, ?_, ?_⟩
    · intro j x hj
      have hjl : j < len := by
        have := (List.getElem?_eq_some_iff.1 hj).1
        simpa using this
      have hx' : x = F j := by
        rw [List.getElem?_map, List.getElem?_range hjl] at hj
        exact (Option.some.inj hj).symm
      subst hx'
      obtain ⟨c0, c1, _, _⟩ := hall j (by omega)
      obtain ⟨e0, e1, _, _⟩ := hF j hjl
      refine ⟨[.string (F j).f0, .string (F j).f1], rfl, k24_mk W (F j), fun i u hu => ?_⟩
      match i with
      | 0 =>
        simp only [List.getElem?_cons_zero, Option.some.injEq] at hu
        subst hu
        rw [← e0]
        exact c0
      | 1 =>
        simp only [List.getElem?_cons_succ, List.getElem?_cons_zero, Option.some.injEq] at hu
        subst hu
        rw [← e1]
        exact c1
      | i + 2 => simp at hu
    · rw [hlen]
      have := hz ((len + (m - len)) * Tryd.prog.bytesOf 24) (by rw [hd]; simp [DataW.weights, Tryd.underlying25])
      rw [show Tryd.prog.bytesOf 24 = 32 by kernel_rfl] at this
      omega
    · intro x hx'
      obtain ⟨i, hi, rfl⟩ := List.mem_map.1 hx'
      have hi' := List.mem_range.1 hi
      obtain ⟨_, _, d0, d1⟩ := hF i hi'
      have hw : ∀ n ∈ (DataW.agg [D0 i, D1 i]).weights Tryd.prog 24, n ≤ reachBytes := by
        intro n hn
        refine hz n ?_
        rw [hd]
        simp only [DataW.weights, Tryd.underlying25, List.mem_cons, List.mem_append]
        right; left
        exact weights_all (i := i) (by rw [List.getElem?_map, List.getElem?_range hi']; rfl) n hn
      rw [d0, d1] at hw
      have h0 := hw (F i).f0.data.toList.length (by simp [DataW.weights, Tryd.underlying24, DataW.weightsEach])
      have h1 := hw (F i).f1.data.toList.length (by simp [DataW.weights, Tryd.underlying24, DataW.weightsEach])
      rw [Array.length_toList] at h0 h1
      exact ⟨h0, h1⟩
theorem open_hdr {base : Nat} {v : Value} {d : DataW H} {p : List MemPlace} (hv : Value.okWide Tryd.prog W .any base 24 v) (h : DataW.Trod enc Tryd.prog W 0 (fun _ => true) true 24 v d p)
    (hz : ∀ n ∈ d.weights Tryd.prog 24, n ≤ reachBytes) :
    ∃ s t : ByteArray, v = .agg #[.string s, .string t] ∧ s.size ≤ reachBytes ∧ t.size ≤ reachBytes := by
  obtain ⟨v0, v1, y0, y1, n, rfl, rfl, rfl, h0, h1⟩ := Go.Joins.open_agg2 Tryd.underlying24 (by kernel_rfl) (show Tryd.prog.cellsOf 24 = 2 by kernel_rfl) hv h
  obtain ⟨s0, e0, x0, _⟩ := DataW.trod_string Tryd.underlying9 h0
  obtain ⟨s1, e1, x1, _⟩ := DataW.trod_string Tryd.underlying9 h1
  simp only [List.cons.injEq, and_true] at e0 e1
  subst e0 e1 x0 x1
  have z0 := hz s0.data.toList.length (by simp [DataW.weights, Tryd.underlying24, DataW.weightsEach])
  have z1 := hz s1.data.toList.length (by simp [DataW.weights, Tryd.underlying24, DataW.weightsEach])
  rw [Array.length_toList] at z0 z1
  exact ⟨s0, s1, rfl, z0, z1⟩
theorem open_strs {base : Nat} {v : Value} {d : DataW H} {p : List MemPlace} (hv : Value.okWide Tryd.prog W .any base 28 v) (h : DataW.Trod enc Tryd.prog W 0 (fun _ => true) true 28 v d p)
    (hz : ∀ n ∈ d.weights Tryd.prog 28, n ≤ reachBytes) :
    ∃ (A : Option Addr) (c : Nat) (l : List ByteArray), v = .slice A l.length c ∧ l.length ≤ c ∧ Kd.C Kd.string W A l.length l ∧ l.length * 16 ≤ reachBytes ∧ ∀ x ∈ l, x.size ≤ reachBytes := by
  obtain ⟨a0, len0, cap0, rfl⟩ := okWide_slice Tryd.underlying28 hv
  obtain ⟨fuel, hf⟩ := h
  rcases open_slice1 Tryd.underlying28 (show Tryd.prog.cellsOf 9 = 1 by kernel_rfl) hf with ⟨hc, _⟩ | ⟨a, len, cap, m, n, V, D, Pl, hc, _, hl, hm, hmm, hx, hall⟩
  · simp [Value.cells] at hc
    obtain ⟨rfl, rfl, rfl⟩ := hc
    exact ⟨none, 0, [], rfl, Nat.le_refl _, ⟨rfl, by simp, fun hn => absurd hn (by simp)⟩, by simp, fun x hx => by cases hx⟩
  · simp [Value.cells] at hc
    obtain ⟨rfl, e2, e3⟩ := hc
    rw [e2, e3]
    clear hv hf
    have hlm : len ≤ m := by rw [hmm]; simp; omega
    have hd : d = .slice ((List.range len).map D) ((List.range (m - len)).map fun j => D (len + j)) := congrArg Prod.fst hx
    have each : ∀ i, i < len → ∃ x : ByteArray, V i = .string x ∧ D i = .lit (.string x.data.toList) := by
      intro i hi
      obtain ⟨_, h0⟩ := hall i (by omega)
      obtain ⟨s0, e0, x0, _⟩ := DataW.trod_string Tryd.underlying9 h0
      simp only [List.cons.injEq, and_true] at e0
      simp only [Prod.mk.injEq] at x0
      exact ⟨s0, e0, x0.1⟩
    haveI : Inhabited ByteArray := ⟨ByteArray.empty⟩
    obtain ⟨F, hF⟩ := choose_lt each
    have hlen : ((List.range len).map F).length = len := by simp
    refine ⟨some a, cap, (List.range len).map F, by rw [hlen], by rw [hlen]; exact hl, ⟨rfl, by rw [hlen]; have := hm; unfold maxLen at this; omega, fun _ => ⟨a, rfl, ?_⟩⟩, ?_, ?_⟩
    · intro j x hj
      have hjl : j < len := by
        have := (List.getElem?_eq_some_iff.1 hj).1
        simpa using this
      have hx' : x = F j := by
        rw [List.getElem?_map, List.getElem?_range hjl] at hj
        exact (Option.some.inj hj).symm
      subst hx'
      obtain ⟨c0, _⟩ := hall j (by omega)
      obtain ⟨e0, _⟩ := hF j hjl
      refine ⟨[.string (F j)], rfl, rfl, fun i u hu => ?_⟩
      match i with
      | 0 =>
        simp only [List.getElem?_cons_zero, Option.some.injEq] at hu
        subst hu
        rw [← e0]
        simpa [show (Kd.string).sz = 1 from rfl] using c0
      | i + 1 => simp at hu
    · rw [hlen]
      have := hz ((len + (m - len)) * Tryd.prog.bytesOf 9) (by rw [hd]; simp [DataW.weights, Tryd.underlying28])
      rw [show Tryd.prog.bytesOf 9 = 16 by kernel_rfl] at this
      omega
    · intro x hx'
      obtain ⟨i, hi, rfl⟩ := List.mem_map.1 hx'
      have hi' := List.mem_range.1 hi
      obtain ⟨_, d0⟩ := hF i hi'
      have hw : ∀ n ∈ (D i).weights Tryd.prog 9, n ≤ reachBytes := by
        intro n hn
        refine hz n ?_
        rw [hd]
        simp only [DataW.weights, Tryd.underlying28, List.mem_cons, List.mem_append]
        right; left
        exact weights_all (i := i) (by rw [List.getElem?_map, List.getElem?_range hi']; rfl) n hn
      rw [d0] at hw
      have h0 := hw (F i).data.toList.length (by simp [DataW.weights])
      rw [Array.length_toList] at h0
      exact h0
end
end Go.Proofs.YtebkibohejjkcaaDoor.ro
