/- Arguments that are structs with slices, or slices of structs: what a row reads, over the printed structs. -/
import Derived.Test.YtbbaokjkmcfceaaDoorRc
import Derived.Test.YtbbaokjkmcfceaaDoorQx0
import Derived.Deep.Slices
import Derived.Lib.SmallJoins
import Derived.Carry
namespace Go.Proofs.YtbbaokjkmcfceaaDoor.rg
set_option linter.unusedVariables false
set_option linter.unusedSimpArgs false
open Go.ChangeShapes Go.WideShapes Go.ChangeAt Go.RowKit Go.Deep
open Go.Proofs.YtbbaokjkmcfceaaDoor.Q Go.Proofs.YtbbaokjkmcfceaaDoorW.PrintWords Go.Proofs.YtbbaokjkmcfceaaDoorW.PrintLast
section
variable {H : Type} {enc : TypeId × Value → H} {W : World}
theorem weights_all {P : Program} {e : TypeId} : ∀ {l : List (DataW H)} {i : Nat} {d : DataW H}, l[i]? = some d → ∀ n ∈ d.weights P e, n ∈ DataW.weightsAll P e l
  | d0 :: l, 0, d, h, n, hn => by
    simp only [List.getElem?_cons_zero, Option.some.injEq] at h
    subst h
    simp only [DataW.weightsAll, List.mem_append]
    exact Or.inl hn
  | d0 :: l, i + 1, d, h, n, hn => by
    simp only [List.getElem?_cons_succ] at h
    simp only [DataW.weightsAll, List.mem_append]
    exact Or.inr (weights_all h n hn)
  | [], _, _, h, _, _ => by simp at h
theorem open_row {α : Type} [Inhabited α] {P : Program} {K : Kd α} {Bd : α → Prop} {t e : TypeId} {bytes : Nat} (ht : P.underlying t = some (.slice e)) (ce : P.cellsOf e = K.sz) (hb : P.bytesOf e = bytes)
    (he : ∀ (n : Nat) (cs : List Value) (x : DataW H × List MemPlace), DataW.trod enc P W 0 (fun _ => true) true n e cs = some x → (∀ n ∈ x.1.weights P e, n ≤ reachBytes) → ∃ y : α, K.K W y cs ∧ Bd y)
    {fuel : Nat} {cs : List Value} {x : DataW H × List MemPlace} (h : DataW.trod enc P W 0 (fun _ => true) true fuel t cs = some x) (hz : ∀ n ∈ x.1.weights P t, n ≤ reachBytes) :
    ∃ (A : Option Addr) (cc : Nat) (l : List α), cs = [.slice A l.length cc] ∧ l.length ≤ cc ∧ Kd.C K W A l.length l ∧ l.length * bytes ≤ reachBytes ∧ ∀ y ∈ l, Bd y := by
  rcases open_slice ht h with ⟨rfl, _⟩ | ⟨a, len, cap, m, n, D, Pl, rfl, _, hl, hm, hmm, rfl, hx⟩
  · exact ⟨none, 0, [], rfl, Nat.le_refl _, ⟨rfl, by simp, fun hn => absurd hn (by simp)⟩, by simp, fun x hx => by cases hx⟩
  · have hlm : len ≤ m := by rw [hmm]; simp; omega
    have each : ∀ i, i < len → ∃ y : α, Bd y ∧ ∃ c, c.length = K.sz ∧ K.K W y c ∧ ∀ j u, c[j]? = some u → W.cell? (a.add (i * K.sz + j)) = some u := by
      intro i hi
      obtain ⟨c, h1, h2⟩ := hx i (by omega)
      obtain ⟨_, hlen, hcell⟩ := World.cells?_some h1
      obtain ⟨y, hy, hB⟩ := he n c _ h2 (by
        intro w hw
        refine hz w ?_
        simp only [DataW.weights, ht, List.mem_cons, List.mem_append]
        right; left
        exact weights_all (i := i) (by rw [List.getElem?_map, List.getElem?_range hi]; rfl) w hw)
      refine ⟨y, hB, c, by rw [hlen, ce], hy, fun j u hu => ?_⟩
      have hj : j < c.length := (List.getElem?_eq_some_iff.1 hu).1
      have := hcell j (by omega)
      rw [Go.Deep.add_add, ce] at this
      rw [this]; exact hu
    obtain ⟨F, hF⟩ := choose_lt each
    have hlen : ((List.range len).map F).length = len := by simp
    refine ⟨some a, cap, (List.range len).map F, by rw [hlen], by rw [hlen]; exact hl, ⟨rfl, by rw [hlen]; have := hm; unfold maxLen at this; omega, fun _ => ⟨a, rfl, ?_⟩⟩, ?_, ?_⟩
    · intro j y hj
      have hjl : j < len := by
        have := (List.getElem?_eq_some_iff.1 hj).1
        simpa using this
      have hx' : y = F j := by
        rw [List.getElem?_map, List.getElem?_range hjl] at hj
        exact (Option.some.inj hj).symm
      subst hx'
      exact (hF j hjl).2
    · rw [hlen]
      have := hz ((len + (m - len)) * P.bytesOf e) (by simp [DataW.weights, ht])
      rw [hb] at this
      have h2 : len * bytes ≤ (len + (m - len)) * bytes := Nat.mul_le_mul_right _ (by omega)
      omega
    · intro y hy
      obtain ⟨i, hi, rfl⟩ := List.mem_map.1 hy
      exact (hF i (List.mem_range.1 hi)).1
theorem open_str {P : Program} {e : TypeId} (he : P.underlying e = some .string) (n : Nat) (cs : List Value) (x : DataW H × List MemPlace) (h : DataW.trod enc P W 0 (fun _ => true) true n e cs = some x) (hz : ∀ n ∈ x.1.weights P e, n ≤ reachBytes) : ∃ y : ByteArray, Kd.string.K W y cs ∧ y.size ≤ reachBytes := by
  obtain ⟨s, rfl, rfl, _⟩ := DataW.trod_string he h
  have z := hz s.data.toList.length (by simp [DataW.weights])
  rw [Array.length_toList] at z
  exact ⟨s, rfl, z⟩
theorem list4 {α : Type} {l : List α} (h : l.length = 4) : ∃ c0 c1 c2 c3, l = [c0, c1, c2, c3] := by
  match l, h with
  | [c0, c1, c2, c3], _ => exact ⟨c0, c1, c2, c3, rfl⟩
theorem open_s38 (fuel : Nat) (cs : List Value) (x : DataW H × List MemPlace) (h : DataW.trod enc Tryd.prog W 0 (fun _ => true) true fuel 38 cs = some x) (hz : ∀ n ∈ x.1.weights Tryd.prog 38, n ≤ reachBytes) :
    ∃ y : S38, k38.K W y cs ∧ (y.f0.size ≤ reachBytes ∧ (Lit.int .i64 y.f1).wf = true ∧ (Lit.int .i64 y.f2).wf = true ∧ y.f3.size ≤ reachBytes) := by
  obtain ⟨xs, n, rfl, rfl, hl, hxl, hf⟩ := DataW.trod_struct Tryd.underlying38 h
  rw [show Tryd.prog.cellsOf 38 = 4 by kernel_rfl] at hl
  obtain ⟨c0, c1, c2, c3, rfl⟩ := list4 hl
  obtain ⟨y0, y1, y2, y3, rfl⟩ := list4 (show xs.length = 4 from hxl)
  have hz' : ∀ n, (n ∈ y0.1.weights Tryd.prog 9 ∨ n ∈ y1.1.weights Tryd.prog 3 ∨ n ∈ y2.1.weights Tryd.prog 3 ∨ n ∈ y3.1.weights Tryd.prog 9) → n ≤ reachBytes := fun n hn => hz n (by simpa [DataW.weights, Tryd.underlying38, DataW.weightsEach] using hn)
  clear hz
  have g0 : DataW.trod enc Tryd.prog W 0 (fun _ => true) true n 9 [c0] = some y0 := by simpa [show Tryd.prog.cellsOf 9 = 1 by kernel_rfl] using hf 0 _ rfl
  obtain ⟨a0, e0, x0, _⟩ := DataW.trod_string Tryd.underlying9 g0
  have w0 : a0.size ≤ reachBytes := by
    have z := hz' a0.data.toList.length (.inl (by rw [x0]; simp [DataW.weights]))
    rw [Array.length_toList] at z
    exact z
  simp only [List.cons.injEq, and_true] at e0
  subst e0
  have g1 : DataW.trod enc Tryd.prog W 0 (fun _ => true) true n 3 [c1] = some y1 := by simpa [show Tryd.prog.cellsOf 3 = 1 by kernel_rfl] using hf 1 _ rfl
  obtain ⟨a1, e1, x1, w1⟩ := DataW.trod_int Tryd.underlying3 g1
  simp only [List.cons.injEq, and_true] at e1
  subst e1
  have g2 : DataW.trod enc Tryd.prog W 0 (fun _ => true) true n 3 [c2] = some y2 := by simpa [show Tryd.prog.cellsOf 3 = 1 by kernel_rfl] using hf 2 _ rfl
  obtain ⟨a2, e2, x2, w2⟩ := DataW.trod_int Tryd.underlying3 g2
  simp only [List.cons.injEq, and_true] at e2
  subst e2
  have g3 : DataW.trod enc Tryd.prog W 0 (fun _ => true) true n 9 [c3] = some y3 := by simpa [show Tryd.prog.cellsOf 9 = 1 by kernel_rfl] using hf 3 _ rfl
  obtain ⟨a3, e3, x3, _⟩ := DataW.trod_string Tryd.underlying9 g3
  have w3 : a3.size ≤ reachBytes := by
    have z := hz' a3.data.toList.length (.inr (.inr (.inr (by rw [x3]; simp [DataW.weights]))))
    rw [Array.length_toList] at z
    exact z
  simp only [List.cons.injEq, and_true] at e3
  subst e3
  exact ⟨⟨a0, a1, a2, a3⟩, k38_mk W ⟨a0, a1, a2, a3⟩ , w0, w1, w2, w3⟩
theorem open_s23 (fuel : Nat) (cs : List Value) (x : DataW H × List MemPlace) (h : DataW.trod enc Tryd.prog W 0 (fun _ => true) true fuel 23 cs = some x) (hz : ∀ n ∈ x.1.weights Tryd.prog 23, n ≤ reachBytes) :
    ∃ (A : Option Addr) (cc : Nat) (l : List S38), cs = [.slice A l.length cc] ∧ l.length ≤ cc ∧ Kd.C k38 W A l.length l ∧ l.length * 48 ≤ reachBytes ∧ ∀ y : S38, y ∈ l → y.f0.size ≤ reachBytes ∧ (Lit.int .i64 y.f1).wf = true ∧ (Lit.int .i64 y.f2).wf = true ∧ y.f3.size ≤ reachBytes := by
  haveI : Inhabited S38 := ⟨z38⟩
  exact open_row (K := k38) (Bd := fun y : S38 => y.f0.size ≤ reachBytes ∧ (Lit.int .i64 y.f1).wf = true ∧ (Lit.int .i64 y.f2).wf = true ∧ y.f3.size ≤ reachBytes) Tryd.underlying23 (by kernel_rfl) (by kernel_rfl) open_s38 h hz
theorem open_s25 (fuel : Nat) (cs : List Value) (x : DataW H × List MemPlace) (h : DataW.trod enc Tryd.prog W 0 (fun _ => true) true fuel 25 cs = some x) (hz : ∀ n ∈ x.1.weights Tryd.prog 25, n ≤ reachBytes) :
    ∃ y : S25, k25.K W y cs ∧ ((Lit.int .i64 y.f0).wf = true ∧ (Lit.int .i64 y.f1).wf = true ∧ y.f2.size ≤ reachBytes ∧ (y.f3.length * 48 ≤ reachBytes ∧ ∀ u0 : S38, u0 ∈ y.f3 → u0.f0.size ≤ reachBytes ∧ (Lit.int .i64 u0.f1).wf = true ∧ (Lit.int .i64 u0.f2).wf = true ∧ u0.f3.size ≤ reachBytes)) := by
  obtain ⟨xs, n, rfl, rfl, hl, hxl, hf⟩ := DataW.trod_struct Tryd.underlying25 h
  rw [show Tryd.prog.cellsOf 25 = 4 by kernel_rfl] at hl
  obtain ⟨c0, c1, c2, c3, rfl⟩ := list4 hl
  obtain ⟨y0, y1, y2, y3, rfl⟩ := list4 (show xs.length = 4 from hxl)
  have hz' : ∀ n, (n ∈ y0.1.weights Tryd.prog 3 ∨ n ∈ y1.1.weights Tryd.prog 3 ∨ n ∈ y2.1.weights Tryd.prog 9 ∨ n ∈ y3.1.weights Tryd.prog 23) → n ≤ reachBytes := fun n hn => hz n (by simpa [DataW.weights, Tryd.underlying25, DataW.weightsEach] using hn)
  clear hz
  have g0 : DataW.trod enc Tryd.prog W 0 (fun _ => true) true n 3 [c0] = some y0 := by simpa [show Tryd.prog.cellsOf 3 = 1 by kernel_rfl] using hf 0 _ rfl
  obtain ⟨a0, e0, x0, w0⟩ := DataW.trod_int Tryd.underlying3 g0
  simp only [List.cons.injEq, and_true] at e0
  subst e0
  have g1 : DataW.trod enc Tryd.prog W 0 (fun _ => true) true n 3 [c1] = some y1 := by simpa [show Tryd.prog.cellsOf 3 = 1 by kernel_rfl] using hf 1 _ rfl
  obtain ⟨a1, e1, x1, w1⟩ := DataW.trod_int Tryd.underlying3 g1
  simp only [List.cons.injEq, and_true] at e1
  subst e1
  have g2 : DataW.trod enc Tryd.prog W 0 (fun _ => true) true n 9 [c2] = some y2 := by simpa [show Tryd.prog.cellsOf 9 = 1 by kernel_rfl] using hf 2 _ rfl
  obtain ⟨a2, e2, x2, _⟩ := DataW.trod_string Tryd.underlying9 g2
  have w2 : a2.size ≤ reachBytes := by
    have z := hz' a2.data.toList.length (.inr (.inr (.inl (by rw [x2]; simp [DataW.weights]))))
    rw [Array.length_toList] at z
    exact z
  simp only [List.cons.injEq, and_true] at e2
  subst e2
  have g3 : DataW.trod enc Tryd.prog W 0 (fun _ => true) true n 23 [c3] = some y3 := by simpa [show Tryd.prog.cellsOf 23 = 1 by kernel_rfl] using hf 3 _ rfl
  obtain ⟨A3, n3, a3, e3, l3, C3, w3, z3⟩ := open_s23 _ _ _ g3 (fun n hn => hz' n (.inr (.inr (.inr hn))))
  simp only [List.cons.injEq, and_true] at e3
  subst e3
  exact ⟨⟨a0, a1, a2, a3⟩, k25_mk W ⟨a0, a1, a2, a3⟩ l3 C3, w0, w1, w2, ⟨w3, z3⟩⟩
set_option maxRecDepth 20000 in
theorem open_p25 {base : Nat} {v : Value} {d : DataW H} {p : List MemPlace} (hv : Value.okWide Tryd.prog W .any base 25 v) (h : DataW.Trod enc Tryd.prog W 0 (fun _ => true) true 25 v d p)
    (hz : ∀ n ∈ d.weights Tryd.prog 25, n ≤ reachBytes) :
    ∃ (a0 : Int) (a1 : Int) (a2 : ByteArray) (A3 : Option Addr) (c3 : Nat) (a3 : List S38), v = .agg #[.int .i64 a0, .int .i64 a1, .string a2, .slice A3 a3.length c3] ∧ ((Lit.int .i64 a0).wf = true) ∧ ((Lit.int .i64 a1).wf = true) ∧ (a2.size ≤ reachBytes) ∧ (a3.length ≤ c3 ∧ Kd.C k38 W A3 a3.length a3 ∧ a3.length * 48 ≤ reachBytes ∧ ∀ u0 : S38, u0 ∈ a3 → u0.f0.size ≤ reachBytes ∧ (Lit.int .i64 u0.f1).wf = true ∧ (Lit.int .i64 u0.f2).wf = true ∧ u0.f3.size ≤ reachBytes) := by
  obtain ⟨cs, rfl, hcs⟩ := okWide_struct Tryd.underlying25 hv
  obtain ⟨fuel, hf⟩ := h
  obtain ⟨y, hK, hB⟩ := open_s25 _ _ _ hf (by exact hz)
  obtain ⟨A3, c3, e, l3, g3⟩ := k25_open hK
  obtain ⟨w0, w1, w2, w3⟩ := hB
  have e2 : cs.toList = _ := e
  obtain rfl := Array.toList_inj.1 (e2.trans List.toList_toArray.symm)
  exact ⟨y.f0, y.f1, y.f2, A3, c3, y.f3, rfl, w0, w1, w2, ⟨l3, g3, w3⟩⟩
end
end Go.Proofs.YtbbaokjkmcfceaaDoor.rg
