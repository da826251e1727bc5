/- Arguments that are structs of numbers, bools and texts: what a row reads, field by field. -/
import Derived.Test.YtabjpoapnbkljaaDoorRc
import Derived.Lib.SmallJoins
import Derived.Carry
namespace Go.Proofs.YtabjpoapnbkljaaDoor.ro
set_option linter.unusedVariables false
set_option linter.unusedSimpArgs false
open Go.ChangeShapes Go.WideShapes Go.ChangeAt Go.RowKit Go.Deep
section
variable {H : Type} {enc : TypeId × Value → H} {W : World}
theorem list3 {α : Type} {l : List α} (h : l.length = 3) : ∃ c0 c1 c2, l = [c0, c1, c2] := by
  match l, h with
  | [c0, c1, c2], _ => exact ⟨c0, c1, c2, rfl⟩
theorem list4 {α : Type} {l : List α} (h : l.length = 4) : ∃ c0 c1 c2 c3, l = [c0, c1, c2, c3] := by
  match l, h with
  | [c0, c1, c2, c3], _ => exact ⟨c0, c1, c2, c3, rfl⟩
theorem list5 {α : Type} {l : List α} (h : l.length = 5) : ∃ c0 c1 c2 c3 c4, l = [c0, c1, c2, c3, c4] := by
  match l, h with
  | [c0, c1, c2, c3, c4], _ => exact ⟨c0, c1, c2, c3, c4, rfl⟩
theorem list7 {α : Type} {l : List α} (h : l.length = 7) : ∃ c0 c1 c2 c3 c4 c5 c6, l = [c0, c1, c2, c3, c4, c5, c6] := by
  match l, h with
  | [c0, c1, c2, c3, c4, c5, c6], _ => exact ⟨c0, c1, c2, c3, c4, c5, c6, rfl⟩
theorem open_s23 {fuel : Nat} {cs : List Value} {x : DataW H × List MemPlace} (h : DataW.trod enc Tryd.prog W 0 (fun _ => true) true fuel 23 cs = some x) (hz : ∀ n ∈ x.1.weights Tryd.prog 23, n ≤ reachBytes) :
    ∃ (a0 : Int) (a1 : ByteArray) (a2 : Int) (a3 : ByteArray), cs = [Value.int .i64 a0, Value.string a1, Value.int .i64 a2, Value.string a3] ∧ (Lit.int .i64 a0).wf = true ∧ a1.size ≤ reachBytes ∧ (Lit.int .i64 a2).wf = true ∧ a3.size ≤ reachBytes := by
  obtain ⟨xs, n, rfl, rfl, hl, hxl, hf⟩ := DataW.trod_struct Tryd.underlying23 h
  rw [show Tryd.prog.cellsOf 23 = 4 by kernel_rfl] at hl
  obtain ⟨c0, c1, c2, c3, rfl⟩ := list4 hl
  obtain ⟨y0, y1, y2, y3, rfl⟩ := list4 (show xs.length = 4 from hxl)
  have hz' : ∀ n, (n ∈ y0.1.weights Tryd.prog 3 ∨ n ∈ y1.1.weights Tryd.prog 9 ∨ n ∈ y2.1.weights Tryd.prog 3 ∨ n ∈ y3.1.weights Tryd.prog 9) → n ≤ reachBytes := fun n hn => hz n (by simpa [DataW.weights, Tryd.underlying23, DataW.weightsEach] using hn)
  clear hz
  have g0 : DataW.trod enc Tryd.prog W 0 (fun _ => true) true n 3 [c0] = some y0 := by simpa [show Tryd.prog.cellsOf 3 = 1 by kernel_rfl] using hf 0 _ rfl
  obtain ⟨a0, e0, x0, w0⟩ := DataW.trod_int Tryd.underlying3 g0
  simp only [List.cons.injEq, and_true] at e0
  subst e0
  have g1 : DataW.trod enc Tryd.prog W 0 (fun _ => true) true n 9 [c1] = some y1 := by simpa [show Tryd.prog.cellsOf 9 = 1 by kernel_rfl] using hf 1 _ rfl
  obtain ⟨a1, e1, x1, _⟩ := DataW.trod_string Tryd.underlying9 g1
  have w1 : a1.size ≤ reachBytes := by
    have z := hz' a1.data.toList.length (.inr (.inl (by rw [x1]; simp [DataW.weights])))
    rw [Array.length_toList] at z
    exact z
  simp only [List.cons.injEq, and_true] at e1
  subst e1
  have g2 : DataW.trod enc Tryd.prog W 0 (fun _ => true) true n 3 [c2] = some y2 := by simpa [show Tryd.prog.cellsOf 3 = 1 by kernel_rfl] using hf 2 _ rfl
  obtain ⟨a2, e2, x2, w2⟩ := DataW.trod_int Tryd.underlying3 g2
  simp only [List.cons.injEq, and_true] at e2
  subst e2
  have g3 : DataW.trod enc Tryd.prog W 0 (fun _ => true) true n 9 [c3] = some y3 := by simpa [show Tryd.prog.cellsOf 9 = 1 by kernel_rfl] using hf 3 _ rfl
  obtain ⟨a3, e3, x3, _⟩ := DataW.trod_string Tryd.underlying9 g3
  have w3 : a3.size ≤ reachBytes := by
    have z := hz' a3.data.toList.length (.inr (.inr (.inr (by rw [x3]; simp [DataW.weights]))))
    rw [Array.length_toList] at z
    exact z
  simp only [List.cons.injEq, and_true] at e3
  subst e3
  exact ⟨a0, a1, a2, a3, rfl, w0, w1, w2, w3⟩
theorem open_p23 {base : Nat} {v : Value} {d : DataW H} {p : List MemPlace} (hv : Value.okWide Tryd.prog W .any base 23 v) (h : DataW.Trod enc Tryd.prog W 0 (fun _ => true) true 23 v d p)
    (hz : ∀ n ∈ d.weights Tryd.prog 23, n ≤ reachBytes) :
    ∃ (a0 : Int) (a1 : ByteArray) (a2 : Int) (a3 : ByteArray), v = .agg #[.int .i64 a0, .string a1, .int .i64 a2, .string a3] ∧ (Lit.int .i64 a0).wf = true ∧ a1.size ≤ reachBytes ∧ (Lit.int .i64 a2).wf = true ∧ a3.size ≤ reachBytes := by
  obtain ⟨cs, rfl, hcs⟩ := okWide_struct Tryd.underlying23 hv
  obtain ⟨fuel, hf⟩ := h
  obtain ⟨a0, a1, a2, a3, e, hw⟩ := open_s23 hf hz
  have e2 : cs.toList = _ := e
  obtain rfl := Array.toList_inj.1 (e2.trans List.toList_toArray.symm)
  exact ⟨a0, a1, a2, a3, rfl, hw⟩
theorem open_s26 {fuel : Nat} {cs : List Value} {x : DataW H × List MemPlace} (h : DataW.trod enc Tryd.prog W 0 (fun _ => true) true fuel 26 cs = some x) (hz : ∀ n ∈ x.1.weights Tryd.prog 26, n ≤ reachBytes) :
    ∃ (a0 : ByteArray) (a1 : Bool) (a2 : Int), cs = [Value.string a0, Value.bool a1, Value.int .u32 a2] ∧ a0.size ≤ reachBytes ∧ (Lit.int .u32 a2).wf = true := by
  obtain ⟨xs, n, rfl, rfl, hl, hxl, hf⟩ := DataW.trod_struct Tryd.underlying26 h
  rw [show Tryd.prog.cellsOf 26 = 3 by kernel_rfl] at hl
  obtain ⟨c0, c1, c2, rfl⟩ := list3 hl
  obtain ⟨y0, y1, y2, rfl⟩ := list3 (show xs.length = 3 from hxl)
  have hz' : ∀ n, (n ∈ y0.1.weights Tryd.prog 9 ∨ n ∈ y1.1.weights Tryd.prog 4 ∨ n ∈ y2.1.weights Tryd.prog 24) → n ≤ reachBytes := fun n hn => hz n (by simpa [DataW.weights, Tryd.underlying26, DataW.weightsEach] using hn)
  clear hz
  have g0 : DataW.trod enc Tryd.prog W 0 (fun _ => true) true n 9 [c0] = some y0 := by simpa [show Tryd.prog.cellsOf 9 = 1 by kernel_rfl] using hf 0 _ rfl
  obtain ⟨a0, e0, x0, _⟩ := DataW.trod_string Tryd.underlying9 g0
  have w0 : a0.size ≤ reachBytes := by
    have z := hz' a0.data.toList.length (.inl (by rw [x0]; simp [DataW.weights]))
    rw [Array.length_toList] at z
    exact z
  simp only [List.cons.injEq, and_true] at e0
  subst e0
  have g1 : DataW.trod enc Tryd.prog W 0 (fun _ => true) true n 4 [c1] = some y1 := by simpa [show Tryd.prog.cellsOf 4 = 1 by kernel_rfl] using hf 1 _ rfl
  obtain ⟨a1, e1, x1⟩ := DataW.trod_bool Tryd.underlying4 g1
  simp only [List.cons.injEq, and_true] at e1
  subst e1
  have g2 : DataW.trod enc Tryd.prog W 0 (fun _ => true) true n 24 [c2] = some y2 := by simpa [show Tryd.prog.cellsOf 24 = 1 by kernel_rfl] using hf 2 _ rfl
  obtain ⟨a2, e2, x2, w2⟩ := DataW.trod_int Tryd.underlying24 g2
  simp only [List.cons.injEq, and_true] at e2
  subst e2
  exact ⟨a0, a1, a2, rfl, w0, w2⟩
theorem open_p26 {base : Nat} {v : Value} {d : DataW H} {p : List MemPlace} (hv : Value.okWide Tryd.prog W .any base 26 v) (h : DataW.Trod enc Tryd.prog W 0 (fun _ => true) true 26 v d p)
    (hz : ∀ n ∈ d.weights Tryd.prog 26, n ≤ reachBytes) :
    ∃ (a0 : ByteArray) (a1 : Bool) (a2 : Int), v = .agg #[.string a0, .bool a1, .int .u32 a2] ∧ a0.size ≤ reachBytes ∧ (Lit.int .u32 a2).wf = true := by
  obtain ⟨cs, rfl, hcs⟩ := okWide_struct Tryd.underlying26 hv
  obtain ⟨fuel, hf⟩ := h
  obtain ⟨a0, a1, a2, e, hw⟩ := open_s26 hf hz
  have e2 : cs.toList = _ := e
  obtain rfl := Array.toList_inj.1 (e2.trans List.toList_toArray.symm)
  exact ⟨a0, a1, a2, rfl, hw⟩
theorem open_s28 {fuel : Nat} {cs : List Value} {x : DataW H × List MemPlace} (h : DataW.trod enc Tryd.prog W 0 (fun _ => true) true fuel 28 cs = some x) (hz : ∀ n ∈ x.1.weights Tryd.prog 28, n ≤ reachBytes) :
    ∃ (a0 : Bool) (a1 : Int) (a2 : ByteArray) (a3 : ByteArray) (a4 : Bool) (a5 : Int) (a6 : Int), cs = [Value.bool a0, Value.int .i64 a1, Value.string a2, Value.string a3, Value.bool a4, Value.int .u32 a5, Value.int .i64 a6] ∧ (Lit.int .i64 a1).wf = true ∧ a2.size ≤ reachBytes ∧ a3.size ≤ reachBytes ∧ (Lit.int .u32 a5).wf = true ∧ (Lit.int .i64 a6).wf = true := by
  obtain ⟨xs, n, rfl, rfl, hl, hxl, hf⟩ := DataW.trod_struct Tryd.underlying28 h
  rw [show Tryd.prog.cellsOf 28 = 7 by kernel_rfl] at hl
  obtain ⟨c0, c1, c2, c3, c4, c5, c6, rfl⟩ := list7 hl
  obtain ⟨y0, y1, y2, y3, y4, rfl⟩ := list5 (show xs.length = 5 from hxl)
  have hz' : ∀ n, (n ∈ y0.1.weights Tryd.prog 4 ∨ n ∈ y1.1.weights Tryd.prog 3 ∨ n ∈ y2.1.weights Tryd.prog 9 ∨ n ∈ y3.1.weights Tryd.prog 26 ∨ n ∈ y4.1.weights Tryd.prog 3) → n ≤ reachBytes := fun n hn => hz n (by simpa [DataW.weights, Tryd.underlying28, DataW.weightsEach] using hn)
  clear hz
  have g0 : DataW.trod enc Tryd.prog W 0 (fun _ => true) true n 4 [c0] = some y0 := by simpa [show Tryd.prog.cellsOf 4 = 1 by kernel_rfl] using hf 0 _ rfl
  obtain ⟨a0, e0, x0⟩ := DataW.trod_bool Tryd.underlying4 g0
  simp only [List.cons.injEq, and_true] at e0
  subst e0
  have g1 : DataW.trod enc Tryd.prog W 0 (fun _ => true) true n 3 [c1] = some y1 := by simpa [show Tryd.prog.cellsOf 3 = 1 by kernel_rfl] using hf 1 _ rfl
  obtain ⟨a1, e1, x1, w1⟩ := DataW.trod_int Tryd.underlying3 g1
  simp only [List.cons.injEq, and_true] at e1
  subst e1
  have g2 : DataW.trod enc Tryd.prog W 0 (fun _ => true) true n 9 [c2] = some y2 := by simpa [show Tryd.prog.cellsOf 9 = 1 by kernel_rfl] using hf 2 _ rfl
  obtain ⟨a2, e2, x2, _⟩ := DataW.trod_string Tryd.underlying9 g2
  have w2 : a2.size ≤ reachBytes := by
    have z := hz' a2.data.toList.length (.inr (.inr (.inl (by rw [x2]; simp [DataW.weights]))))
    rw [Array.length_toList] at z
    exact z
  simp only [List.cons.injEq, and_true] at e2
  subst e2
  have g3 : DataW.trod enc Tryd.prog W 0 (fun _ => true) true n 26 [c3, c4, c5] = some y3 := by simpa [show Tryd.prog.cellsOf 26 = 3 by kernel_rfl] using hf 3 _ rfl
  obtain ⟨a3, a4, a5, e3, w3, w5⟩ := open_s26 g3 (fun n hn => hz' n (.inr (.inr (.inr (.inl hn)))))
  simp only [List.cons.injEq, and_true] at e3
  obtain ⟨rfl, rfl, rfl⟩ := e3
  have g4 : DataW.trod enc Tryd.prog W 0 (fun _ => true) true n 3 [c6] = some y4 := by simpa [show Tryd.prog.cellsOf 3 = 1 by kernel_rfl] using hf 4 _ rfl
  obtain ⟨a6, e4, x4, w6⟩ := DataW.trod_int Tryd.underlying3 g4
  simp only [List.cons.injEq, and_true] at e4
  subst e4
  exact ⟨a0, a1, a2, a3, a4, a5, a6, rfl, w1, w2, w3, w5, w6⟩
theorem open_p28 {base : Nat} {v : Value} {d : DataW H} {p : List MemPlace} (hv : Value.okWide Tryd.prog W .any base 28 v) (h : DataW.Trod enc Tryd.prog W 0 (fun _ => true) true 28 v d p)
    (hz : ∀ n ∈ d.weights Tryd.prog 28, n ≤ reachBytes) :
    ∃ (a0 : Bool) (a1 : Int) (a2 : ByteArray) (a3 : ByteArray) (a4 : Bool) (a5 : Int) (a6 : Int), v = .agg #[.bool a0, .int .i64 a1, .string a2, .string a3, .bool a4, .int .u32 a5, .int .i64 a6] ∧ (Lit.int .i64 a1).wf = true ∧ a2.size ≤ reachBytes ∧ a3.size ≤ reachBytes ∧ (Lit.int .u32 a5).wf = true ∧ (Lit.int .i64 a6).wf = true := by
  obtain ⟨cs, rfl, hcs⟩ := okWide_struct Tryd.underlying28 hv
  obtain ⟨fuel, hf⟩ := h
  obtain ⟨a0, a1, a2, a3, a4, a5, a6, e, hw⟩ := open_s28 hf hz
  have e2 : cs.toList = _ := e
  obtain rfl := Array.toList_inj.1 (e2.trans List.toList_toArray.symm)
  exact ⟨a0, a1, a2, a3, a4, a5, a6, rfl, hw⟩
end
end Go.Proofs.YtabjpoapnbkljaaDoor.ro
