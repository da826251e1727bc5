/- An argument that is a policy: what a row reads, field by field. -/
import Derived.Test.YtkjlhhhnananlaaDoorRowHdrs
namespace Go.Proofs.YtkjlhhhnananlaaDoor.ro
set_option linter.unusedVariables false
set_option linter.unusedSimpArgs false
open Go.ChangeShapes Go.WideShapes Go.ChangeAt Go.RowKit Go.Deep
open Go.Proofs.YtkjlhhhnananlaaDoor.Q Go.Proofs.YtkjlhhhnananlaaDoorW.PrintWords Go.Proofs.YtkjlhhhnananlaaDoorW.PrintLast
section
variable {H : Type} {enc : TypeId × Value → H} {W : World}
theorem open_strs_cell {fuel : Nat} {c : Value} {x : DataW H × List MemPlace} (h : DataW.trod enc Tryd.prog W 0 (fun _ => true) true fuel 24 [c] = some x)
    (hz : ∀ n ∈ x.1.weights Tryd.prog 24, n ≤ reachBytes) :
    ∃ (A : Option Addr) (cc : Nat) (l : List ByteArray), c = .slice A l.length cc ∧ l.length ≤ cc ∧ Kd.C Kd.string W A l.length l ∧ l.length * 16 ≤ reachBytes ∧ ∀ x ∈ l, x.size ≤ reachBytes := by
  obtain ⟨d, p⟩ := x
  have hf := h
  rcases open_slice1 Tryd.underlying24 (show Tryd.prog.cellsOf 9 = 1 by kernel_rfl) hf with ⟨hc, _⟩ | ⟨a, len, cap, m, n, V, D, Pl, hc, _, hl, hm, hmm, hx, hall⟩
  · obtain rfl := (List.cons.inj hc).1
    exact ⟨none, 0, [], rfl, Nat.le_refl _, ⟨rfl, by simp, fun hn => absurd hn (by simp)⟩, by simp, fun x hx => by cases hx⟩
  · obtain rfl := (List.cons.inj hc).1
    clear hf h
    have hlm : len ≤ m := by rw [hmm]; simp; omega
    have hd : d = .slice ((List.range len).map D) ((List.range (m - len)).map fun j => D (len + j)) := congrArg Prod.fst hx
    have each : ∀ i, i < len → ∃ x : ByteArray, V i = .string x ∧ D i = .lit (.string x.data.toList) := by
      intro i hi
      obtain ⟨_, h0⟩ := hall i (by omega)
      obtain ⟨s0, e0, x0, _⟩ := DataW.trod_string Tryd.underlying9 h0
      simp only [List.cons.injEq, and_true] at e0
      simp only [Prod.mk.injEq] at x0
      exact ⟨s0, e0, x0.1⟩
    haveI : Inhabited ByteArray := ⟨ByteArray.empty⟩
    obtain ⟨F, hF⟩ := choose_lt each
    have hlen : ((List.range len).map F).length = len := by simp
    refine ⟨some a, cap, (List.range len).map F, by rw [hlen], by rw [hlen]; exact hl, ⟨rfl, by rw [hlen]; have := hm; unfold maxLen at this; omega, fun _ => ⟨a, rfl, ?_⟩⟩, ?_, ?_⟩
    · intro j x hj
      have hjl : j < len := by
        have := (List.getElem?_eq_some_iff.1 hj).1
        simpa using this
      have hx' : x = F j := by
        rw [List.getElem?_map, List.getElem?_range hjl] at hj
        exact (Option.some.inj hj).symm
      subst hx'
      obtain ⟨c0, _⟩ := hall j (by omega)
      obtain ⟨e0, _⟩ := hF j hjl
      refine ⟨[.string (F j)], rfl, rfl, fun i u hu => ?_⟩
      match i with
      | 0 =>
        simp only [List.getElem?_cons_zero, Option.some.injEq] at hu
        subst hu
        rw [← e0]
        simpa [show (Kd.string).sz = 1 from rfl] using c0
      | i + 1 => simp at hu
    · rw [hlen]
      have := hz ((len + (m - len)) * Tryd.prog.bytesOf 9) (by rw [hd]; simp [DataW.weights, Tryd.underlying24])
      rw [show Tryd.prog.bytesOf 9 = 16 by kernel_rfl] at this
      omega
    · intro x hx'
      obtain ⟨i, hi, rfl⟩ := List.mem_map.1 hx'
      have hi' := List.mem_range.1 hi
      obtain ⟨_, d0⟩ := hF i hi'
      have hw : ∀ n ∈ (D i).weights Tryd.prog 9, n ≤ reachBytes := by
        intro n hn
        refine hz n ?_
        rw [hd]
        simp only [DataW.weights, Tryd.underlying24, List.mem_cons, List.mem_append]
        right; left
        exact weights_all (i := i) (by rw [List.getElem?_map, List.getElem?_range hi']; rfl) n hn
      rw [d0] at hw
      have h0 := hw (F i).data.toList.length (by simp [DataW.weights])
      rw [Array.length_toList] at h0
      exact h0
theorem list4 {α : Type} {l : List α} (h : l.length = 4) : ∃ c0 c1 c2 c3, l = [c0, c1, c2, c3] := by
  match l, h with
  | [c0, c1, c2, c3], _ => exact ⟨c0, c1, c2, c3, rfl⟩
theorem open_pol_s {fuel : Nat} {cs : List Value} {x : DataW H × List MemPlace} (h : DataW.trod enc Tryd.prog W 0 (fun _ => true) true fuel 26 cs = some x) (hz : ∀ n ∈ x.1.weights Tryd.prog 26, n ≤ reachBytes) :
    ∃ (a : Bool) (A1 : Option Addr) (n1 : Nat) (l1 : List ByteArray) (b : Bool) (A3 : Option Addr) (n3 : Nat) (l3 : List ByteArray), cs = [.bool a, .slice A1 l1.length n1, .bool b, .slice A3 l3.length n3] ∧ (l1.length ≤ n1 ∧ Kd.C Kd.string W A1 l1.length l1 ∧ l1.length * 16 ≤ reachBytes ∧ ∀ x ∈ l1, x.size ≤ reachBytes) ∧ (l3.length ≤ n3 ∧ Kd.C Kd.string W A3 l3.length l3 ∧ l3.length * 16 ≤ reachBytes ∧ ∀ x ∈ l3, x.size ≤ reachBytes) := by
  obtain ⟨xs, n, rfl, rfl, hl, hxl, hf⟩ := DataW.trod_struct Tryd.underlying26 h
  rw [show Tryd.prog.cellsOf 26 = 4 by kernel_rfl] at hl
  obtain ⟨c0, c1, c2, c3, rfl⟩ := list4 hl
  obtain ⟨y0, y1, y2, y3, rfl⟩ := list4 (show xs.length = 4 from hxl)
  have hz' : ∀ n, (n ∈ y0.1.weights Tryd.prog 4 ∨ n ∈ y1.1.weights Tryd.prog 24 ∨ n ∈ y2.1.weights Tryd.prog 4 ∨ n ∈ y3.1.weights Tryd.prog 24) → n ≤ reachBytes := fun n hn => hz n (by simpa [DataW.weights, Tryd.underlying26, DataW.weightsEach] using hn)
  have g0 : DataW.trod enc Tryd.prog W 0 (fun _ => true) true n 4 [c0] = some y0 := by simpa [show Tryd.prog.cellsOf 4 = 1 by kernel_rfl] using hf 0 _ rfl
  have g1 : DataW.trod enc Tryd.prog W 0 (fun _ => true) true n 24 [c1] = some y1 := by simpa [show Tryd.prog.cellsOf 24 = 1 by kernel_rfl] using hf 1 _ rfl
  have g2 : DataW.trod enc Tryd.prog W 0 (fun _ => true) true n 4 [c2] = some y2 := by simpa [show Tryd.prog.cellsOf 4 = 1 by kernel_rfl] using hf 2 _ rfl
  have g3 : DataW.trod enc Tryd.prog W 0 (fun _ => true) true n 24 [c3] = some y3 := by simpa [show Tryd.prog.cellsOf 24 = 1 by kernel_rfl] using hf 3 _ rfl
  obtain ⟨a0, q0, z0⟩ := DataW.trod_bool Tryd.underlying4 g0
  obtain ⟨a2, q2, z2⟩ := DataW.trod_bool Tryd.underlying4 g2
  simp only [List.cons.injEq, and_true] at q0 q2
  subst q0 q2
  obtain ⟨A1, n1, l1, rfl, w1⟩ := open_strs_cell g1 (fun n hn => hz' n (.inr (.inl hn)))
  obtain ⟨A3, n3, l3, rfl, w3⟩ := open_strs_cell g3 (fun n hn => hz' n (.inr (.inr (.inr hn))))
  exact ⟨a0, A1, n1, l1, a2, A3, n3, l3, rfl, w1, w3⟩
theorem open_pol {base : Nat} {v : Value} {d : DataW H} {p : List MemPlace} (hv : Value.okWide Tryd.prog W .any base 26 v) (h : DataW.Trod enc Tryd.prog W 0 (fun _ => true) true 26 v d p)
    (hz : ∀ n ∈ d.weights Tryd.prog 26, n ≤ reachBytes) :
    ∃ (a : Bool) (A1 : Option Addr) (n1 : Nat) (l1 : List ByteArray) (b : Bool) (A3 : Option Addr) (n3 : Nat) (l3 : List ByteArray), v = .agg #[.bool a, .slice A1 l1.length n1, .bool b, .slice A3 l3.length n3] ∧ (l1.length ≤ n1 ∧ Kd.C Kd.string W A1 l1.length l1 ∧ l1.length * 16 ≤ reachBytes ∧ ∀ x ∈ l1, x.size ≤ reachBytes) ∧ (l3.length ≤ n3 ∧ Kd.C Kd.string W A3 l3.length l3 ∧ l3.length * 16 ≤ reachBytes ∧ ∀ x ∈ l3, x.size ≤ reachBytes) := by
  obtain ⟨cs, rfl, hcs⟩ := okWide_struct Tryd.underlying26 hv
  obtain ⟨fuel, hf⟩ := h
  obtain ⟨a0, A1, n1, l1, a2, A3, n3, l3, e, w1, w3⟩ := open_pol_s hf hz
  have e2 : cs.toList = _ := e
  obtain rfl := Array.toList_inj.1 (e2.trans List.toList_toArray.symm)
  exact ⟨a0, A1, n1, l1, a2, A3, n3, l3, rfl, w1, w3⟩
end
end Go.Proofs.YtkjlhhhnananlaaDoor.ro
