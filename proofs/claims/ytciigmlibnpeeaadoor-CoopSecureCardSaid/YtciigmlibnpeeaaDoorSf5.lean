/- The number that a text begins with. -/
import Derived.Test.YtciigmlibnpeeaaDoorProg
import Derived.Below
import Derived.Deep.Draws
import Derived.Deep.AppendLies
import Derived.Maps.AppendAt
import Derived.OwnWalk
import Derived.Laws.BytesArg
import Derived.Laws.MakeOwn
import Derived.Laws.OwnMore
import Derived.Deep.OwnRows
import Derived.Tactics
import Derived.Lib.ConvBytes
import Derived.Laws.Slices
import Derived.WalkKit
import Derived.KernelRfl
import Derived.RowKit3
import Derived.Deep.LoopGhost
import Derived.Deep.QuietTactic
import Derived.BigQuiet
import Derived.WideLaws
import Derived.Deep.DeepCutAuto
import Derived.Deep.CutBlock
import Derived.Deep.RegionHeld3
import Derived.Laws.Rows
import Derived.Lib.AppendStr
import Derived.ArgAppend
import Derived.Laws.IdiomCopy
import Derived.OrdersHeld
import Derived.Laws.BitsLemmas
import Derived.RowKit
import Derived.Test.YtciigmlibnpeeaaDoorShelf
import Derived.RangeFuncNested
import Derived.RangeFuncBound
import Derived.RangeFuncCalls
import Derived.RangeFuncLeaves
import Derived.RangeFuncBox
import Derived.Shelf.Abstract
import Derived.OwnWalkIn
import Derived.TacticsInMore
import Derived.LoopNIn
import Derived.LoopIn
import Derived.Maps.AppendAt
import Derived.Stop.RegionWithIn
import Derived.Maps.OwnOps
import Derived.Maps.OwnSet
import Derived.Deep.RegionHeld3
import Derived.Recover
import Derived.Defers
import Derived.Test.YtciigmlibnpeeaaDoorWWords
import Derived.Test.YtciigmlibnpeeaaDoorWLast
import Derived.Test.YtciigmlibnpeeaaDoorWTab
import Derived.Test.YtciigmlibnpeeaaDoorWFour
import Derived.Test.YtciigmlibnpeeaaDoorWQPut
import Derived.Test.YtciigmlibnpeeaaDoorWApart
import Derived.Test.YtciigmlibnpeeaaDoorWArr
import Derived.Test.YtciigmlibnpeeaaDoorWZeros
import Derived.Test.YtciigmlibnpeeaaDoorWFoot
import Derived.Test.YtciigmlibnpeeaaDoorWKept
import Derived.Test.YtciigmlibnpeeaaDoorWShare
import Derived.Test.YtciigmlibnpeeaaDoorWN
import Derived.Test.YtciigmlibnpeeaaDoorWFootNe
import Derived.Test.YtciigmlibnpeeaaDoorWAt
import Derived.Test.YtciigmlibnpeeaaDoorWEqStruct
import Derived.Test.YtciigmlibnpeeaaDoorWRepsOne
import Derived.Test.YtciigmlibnpeeaaDoorWInv
import Derived.Test.YtciigmlibnpeeaaDoorWInvWords
import Derived.Test.YtciigmlibnpeeaaDoorWGuard
import Derived.Test.YtciigmlibnpeeaaDoorWNEv
import Derived.Test.YtciigmlibnpeeaaDoorWMore
import Derived.Test.YtciigmlibnpeeaaDoorSf1
import Derived.Test.YtciigmlibnpeeaaDoorSf2
import Derived.Test.YtciigmlibnpeeaaDoorSf3
import Derived.Test.YtciigmlibnpeeaaDoorSf4
set_option linter.unusedVariables false
set_option linter.unusedSimpArgs false
namespace Go.Proofs.YtciigmlibnpeeaaDoor.Sf
open Go.RowKit Go.Proofs.YtciigmlibnpeeaaDoorW.PrintWords Go.Proofs.YtciigmlibnpeeaaDoorW.PrintLast Go.Proofs.YtciigmlibnpeeaaDoorW.PrintMore
attribute [local go_sem] max2_int min2_int max_two min_two max_three min_three max_four min_four   -- for this text's walks alone
/-- The number that a text begins with. -/
def numV (s : ByteArray) : Nat := s.data.toList.foldl (fun a c => a * 10 + (c.toNat - 48)) 0
theorem decFrom_all : ∀ (l : List UInt8) (acc : Nat), (∀ c ∈ l, dgP c.toNat = true) → Lib.decFrom acc l = some (l.foldl (fun a c => a * 10 + (c.toNat - 48)) acc)
  | [], acc, _ => by simp [Lib.decFrom]
  | c :: l, acc, h => by
    have h1 : dgP c.toNat = true := h c (List.mem_cons_self ..)
    have h2 : 48 ≤ (c.toNat : Int) ∧ (c.toNat : Int) ≤ 57 := of_decide_eq_true h1
    have hd : Lib.digitVal c = some (c.toNat - 48) := by
      unfold Lib.digitVal
      exact if_pos (by omega)
    simp only [Lib.decFrom, hd, List.foldl_cons]
    exact decFrom_all l _ (fun x hx => h x (List.mem_cons_of_mem _ hx))
theorem atoi_digits (s : ByteArray) (h0 : 0 < s.size) (h : ∀ c ∈ s.data.toList, dgP c.toNat = true) : Lib.atoi s.data.toList = some (numV s : Int) := by
  unfold numV
  rw [Lib.size_eq] at h0
  generalize s.data.toList = l at *
  cases l with
  | nil => simp at h0
  | cons b r =>
    have h1 : dgP b.toNat = true := h b (List.mem_cons_self ..)
    have h2 : 48 ≤ (b.toNat : Int) ∧ (b.toNat : Int) ≤ 57 := of_decide_eq_true h1
    have n1 : (b == 45) = false := by rw [beq_eq_false_iff_ne]; rintro rfl; simp at h2
    have n2 : (b == 43) = false := by rw [beq_eq_false_iff_ne]; rintro rfl; simp at h2
    simp only [Lib.atoi, n1, n2, Lib.decNat, decFrom_all _ _ h]
    simp
theorem num_bound : ∀ (l : List UInt8) (acc : Nat), (∀ c ∈ l, dgP c.toNat = true) → l.foldl (fun a c => a * 10 + (c.toNat - 48)) acc < (acc + 1) * 10 ^ l.length
  | [], acc, _ => by simp
  | c :: l, acc, h => by
    have h1 : dgP c.toNat = true := h c (List.mem_cons_self ..)
    have h2 : 48 ≤ (c.toNat : Int) ∧ (c.toNat : Int) ≤ 57 := of_decide_eq_true h1
    have ih := num_bound l (acc * 10 + (c.toNat - 48)) (fun x hx => h x (List.mem_cons_of_mem _ hx))
    simp only [List.foldl_cons, List.length_cons]
    refine Nat.lt_of_lt_of_le ih ?_
    rw [Nat.pow_succ, Nat.mul_comm (10 ^ l.length) 10, ← Nat.mul_assoc]
    exact Nat.mul_le_mul_right _ (by omega)
theorem numV_bound (s : ByteArray) (h : ∀ c ∈ s.data.toList, dgP c.toNat = true) (hs : s.size ≤ 18) : numV s < 1000000000000000000 := by
  have h1 := num_bound s.data.toList 0 h
  have h2 : 10 ^ s.data.toList.length ≤ 10 ^ 18 := Nat.pow_le_pow_right (by decide) (by rw [← Lib.size_eq]; exact hs)
  have h3 : (10 : Nat) ^ 18 = 1000000000000000000 := by decide
  unfold numV
  omega
theorem tak_data (p : Int → Bool) (s : ByteArray) : (takB p s).data.toList = s.data.toList.takeWhile (fun c => p c.toNat) := by
  unfold takB spanB
  rw [Lib.extract_data]
  simp only [List.drop_zero, Nat.sub_zero]
  exact (List.prefix_iff_eq_take.1 (List.takeWhile_prefix _)).symm
theorem mem_takeWhile {α : Type} (q : α → Bool) : ∀ (l : List α) (c : α), c ∈ l.takeWhile q → q c = true
  | [], c, h => by simp at h
  | x :: l, c, h => by
    rw [List.takeWhile_cons] at h
    by_cases hx : q x = true
    · rw [if_pos hx] at h
      rcases List.mem_cons.1 h with rfl | h
      · exact hx
      · exact mem_takeWhile q l c h
    · rw [if_neg hx] at h; cases h
theorem tak_all (p : Int → Bool) (s : ByteArray) : ∀ c ∈ (takB p s).data.toList, p c.toNat = true := by
  intro c hc
  rw [tak_data] at hc
  exact mem_takeWhile (fun c : UInt8 => p c.toNat) _ c hc
def zer (n : Nat) : ByteArray := (⟨#[48, 48, 48]⟩ : ByteArray).extract n 3
def rdNumber (s : ByteArray) : Option ((Int × Int × ByteArray) × ByteArray) :=
  let s1 := atR s 45
  let w := takB dgP s1
  let s2 := drpB dgP s1
  let sg : Int := if atF s 45 = true then -1 else 1
  if w.size = 0 then none
  else if atF s2 46 = true then
    let part := takB dgP (tl s2)
    if w.size > 12 ∨ part.size = 0 ∨ part.size > 3 then none
    else some ((2, sg * (numV (w ++ (part ++ zer part.size)) : Int), ⟨#[]⟩), drpB dgP (tl s2))
  else if w.size > 15 then none else some ((1, sg * (numV w : Int), ⟨#[]⟩), s2)
theorem tak_size (p : Int → Bool) (s : ByteArray) : (takB p s).size = spanB p s := by
  have := span_le p s
  unfold takB; rw [ByteArray.size_extract]; omega
theorem tl_size (s : ByteArray) : (tl s).size ≤ s.size := by unfold tl; rw [ByteArray.size_extract]; omega
theorem atR_size (s : ByteArray) (c : Int) : (atR s c).size ≤ s.size := by unfold atR; split; exact tl_size s; exact Nat.le_refl _
theorem drp_size (p : Int → Bool) (s : ByteArray) : (drpB p s).size ≤ s.size := by unfold drpB; rw [ByteArray.size_extract]; omega
/-- A block of a parameter. -/
def PB (W : World) (b : Nat) (k : ByteArray) (n i : Int) (t : ByteArray) : Prop := W.heap[b]? = some (.cells #[.string k, .int .i64 n, .int .i64 i, .string t] 52 (0, 0))
theorem PB.new (W : World) : PB (W.alloc (.cells #[.string ⟨#[]⟩, .int .i64 0, .int .i64 0, .string ⟨#[]⟩] 52)) W.heap.size ⟨#[]⟩ 0 0 ⟨#[]⟩ := by have := blk_new W (.cells #[.string ⟨#[]⟩, .int .i64 0, .int .i64 0, .string ⟨#[]⟩] 52); simpa [PB] using this
theorem PB.c0 {W : World} {b : Nat} {k t : ByteArray} {n i : Int} (h : PB W b k n i t) : W.cell? ⟨b, 0, none⟩ = some (.string k) := (blk_cell h 0).trans rfl
theorem PB.c1 {W : World} {b : Nat} {k t : ByteArray} {n i : Int} (h : PB W b k n i t) : W.cell? ⟨b, 1, none⟩ = some (.int .i64 n) := (blk_cell h 1).trans rfl
theorem PB.c2 {W : World} {b : Nat} {k t : ByteArray} {n i : Int} (h : PB W b k n i t) : W.cell? ⟨b, 2, none⟩ = some (.int .i64 i) := (blk_cell h 2).trans rfl
theorem PB.c3 {W : World} {b : Nat} {k t : ByteArray} {n i : Int} (h : PB W b k n i t) : W.cell? ⟨b, 3, none⟩ = some (.string t) := (blk_cell h 3).trans rfl
theorem PB.fr {W : World} {b : Nat} {k t : ByteArray} {n i : Int} (h : PB W b k n i t) (j : Nat) : W.frozen? ⟨b, j, none⟩ = false := blk_frozen h j
theorem PB.kb {W W' : World} {b g : Nat} {k t : ByteArray} {n i : Int} (h : PB W b k n i t) (hk : KB g W W') (hg : b ≠ g) : PB W' b k n i t := hk.blk h hg
theorem PB.alloc {W : World} {b : Nat} {k t : ByteArray} {n i : Int} (h : PB W b k n i t) (o : Obj) : PB (W.alloc o) b k n i t := blk_alloc h o
theorem PB.drewN {W : World} {b : Nat} {k t : ByteArray} {n i : Int} (h : PB W b k n i t) (m : Nat) : PB (W.drewN m) b k n i t := h
theorem PB.far {W : World} {b : Nat} {k t : ByteArray} {n i : Int} (h : PB W b k n i t) {p : Addr} (hp : b ≠ p.block) (u : Value) : PB (W.setCell p u) b k n i t := blk_far h hp u
theorem PB.ne {W : World} {b g : Nat} {k t s : ByteArray} {n i : Int} (h : PB W b k n i t) (hr : Rd W g s) : b ≠ g := blk_ne h hr (by decide)
def encP (x : Int × Int × ByteArray) : Value := .agg #[.string ⟨#[]⟩, .int .i64 x.1, .int .i64 x.2.1, .string x.2.2]
theorem while_digit (g : Nat) (s : ByteArray) (w : World) (hs : s.size ≤ 9223372036854775806) (hI : Rd w g s) :
    Calls Tryd.prog 46 #[.pointer (some ⟨g, 0, none⟩), .func (.func 43) #[] #[]] w fun e w' => e = .returned (.string (takB dgP s)) ∧ Rd w' g (drpB dgP s) ∧ KB g w w' := while_calls 43 dgP asks_digit (Go.Proofs.enters_of Tryd.func43 (by kernel_rfl) rfl) g s w hs hI
/-- A parameter that is laid over another, cell by cell. -/
def putP (W : World) (b : Nat) (k : ByteArray) (n i : Int) (t : ByteArray) : World := (((W.setCell ⟨b, 0, none⟩ (.string k)).setCell ⟨b, 1, none⟩ (.int .i64 n)).setCell ⟨b, 2, none⟩ (.int .i64 i)).setCell ⟨b, 3, none⟩ (.string t)
theorem PB.put {W : World} {b : Nat} {k t : ByteArray} {n i : Int} (h : PB W b k n i t) (k' : ByteArray) (n' i' : Int) (t' : ByteArray) : PB (putP W b k' n' i' t') b k' n' i' t' := by
  have h1 := blk_set h 0 (.string k'); have h2 := blk_set h1 1 (.int .i64 n'); have h3 := blk_set h2 2 (.int .i64 i'); have h4 := blk_set h3 3 (.string t')
  unfold putP PB
  simpa using h4
theorem Rd.put {W : World} {g b : Nat} {s : ByteArray} (h : Rd W g s) (hg : g ≠ b) (k : ByteArray) (n i : Int) (t : ByteArray) : Rd (putP W b k n i t) g s :=
  (((h.far (p := ⟨b, 0, none⟩) hg _).far (p := ⟨b, 1, none⟩) hg _).far (p := ⟨b, 2, none⟩) hg _).far (p := ⟨b, 3, none⟩) hg _
theorem KB.put {g b : Nat} {w w1 : World} (h : KB g w w1) (hb : w.heap.size ≤ b) (k : ByteArray) (n i : Int) (t : ByteArray) : KB g w (putP w1 b k n i t) :=
  (((h.far (p := ⟨b, 0, none⟩) hb _).far (p := ⟨b, 1, none⟩) hb _).far (p := ⟨b, 2, none⟩) hb _).far (p := ⟨b, 3, none⟩) hb _
/-- A number in a parameter's third cell. -/
theorem PB.set2 {W : World} {b : Nat} {k t : ByteArray} {n i : Int} (h : PB W b k n i t) (v : Int) : PB (W.setCell ⟨b, 2, none⟩ (.int .i64 v)) b k n v t := by have := blk_set h 2 (.int .i64 v); simpa [PB] using this
theorem zer_digits (n : Nat) : ∀ c ∈ (zer n).data.toList, dgP c.toNat = true := by
  intro c hc
  unfold zer at hc
  rw [Lib.extract_data] at hc
  have h := List.mem_of_mem_drop (List.mem_of_mem_take hc)
  have h : c ∈ ([48, 48, 48] : List UInt8) := h
  simp at h
  subst h
  decide
theorem zer_size (n : Nat) (h : n ≤ 3) : (zer n).size = 3 - n := by unfold zer; rw [ByteArray.size_extract, show (⟨#[48, 48, 48]⟩ : ByteArray).size = 3 from rfl]; omega
theorem app_digits {a b : ByteArray} (ha : ∀ c ∈ a.data.toList, dgP c.toNat = true) (hb : ∀ c ∈ b.data.toList, dgP c.toNat = true) : ∀ c ∈ (a ++ b).data.toList, dgP c.toNat = true := by
  intro c hc
  have e : (a ++ b).data.toList = a.data.toList ++ b.data.toList := by simp
  rw [e] at hc
  rcases List.mem_append.1 hc with h | h
  · exact ha c h
  · exact hb c h
def sgn (s : ByteArray) : Int := if atF s 45 = true then -1 else 1
theorem rdNumber_eq (s : ByteArray) : rdNumber s = if (takB dgP (atR s 45)).size = 0 then none
    else if atF (drpB dgP (atR s 45)) 46 = true then
      (if (takB dgP (atR s 45)).size > 12 ∨ (takB dgP (tl (drpB dgP (atR s 45)))).size = 0 ∨ (takB dgP (tl (drpB dgP (atR s 45)))).size > 3 then none
      else some ((2, sgn s * (numV (takB dgP (atR s 45) ++ (takB dgP (tl (drpB dgP (atR s 45))) ++ zer (takB dgP (tl (drpB dgP (atR s 45)))).size)) : Int), ⟨#[]⟩), drpB dgP (tl (drpB dgP (atR s 45)))))
    else if (takB dgP (atR s 45)).size > 15 then none else some ((1, sgn s * (numV (takB dgP (atR s 45)) : Int), ⟨#[]⟩), drpB dgP (atR s 45)) := rfl
/-- What the second half of number knows. -/
def Half (s : ByteArray) (kd : Int) (pt rest : ByteArray) : Prop :=
  (rdNumber s = if (takB dgP (atR s 45)).size = 0 ∨ (kd = 1 ∧ (takB dgP (atR s 45)).size > 15) then none else some ((kd, sgn s * (numV (takB dgP (atR s 45) ++ pt) : Int), ⟨#[]⟩), rest)) ∧
  (kd = 1 ∨ kd = 2) ∧ (kd = 2 → 0 < (takB dgP (atR s 45)).size ∧ (takB dgP (atR s 45)).size ≤ 12) ∧ pt.size ≤ 3 ∧ ∀ c ∈ pt.data.toList, dgP c.toNat = true
theorem app_empty (a : ByteArray) : a ++ (⟨#[]⟩ : ByteArray) = a := by apply ByteArray.ext; simp
theorem Half.none (s : ByteArray) (h : (takB dgP (atR s 45)).size = 0) (rest : ByteArray) : Half s 1 ⟨#[]⟩ rest := by
  refine ⟨?_, Or.inl rfl, fun h => absurd h (by decide), Nat.zero_le _, fun c hc => absurd hc (by simp)⟩
  rw [if_pos (Or.inl h)]
  rw [rdNumber_eq, if_pos h]
theorem Half.plain (s : ByteArray) (h : ¬ (takB dgP (atR s 45)).size = 0) (hd : atF (drpB dgP (atR s 45)) 46 = false) : Half s 1 ⟨#[]⟩ (drpB dgP (atR s 45)) := by
  refine ⟨?_, Or.inl rfl, fun h => absurd h (by decide), Nat.zero_le _, fun c hc => absurd hc (by simp)⟩
  rw [rdNumber_eq, if_neg h, if_neg (by rw [hd]; decide), app_empty]
  by_cases hb : (takB dgP (atR s 45)).size > 15
  · rw [if_pos hb, if_pos (Or.inr ⟨rfl, hb⟩)]
  · rw [if_neg hb, if_neg (fun h' => h'.elim h (fun h' => hb h'.2))]
theorem Half.dot (s : ByteArray) (h : ¬ (takB dgP (atR s 45)).size = 0) (hd : atF (drpB dgP (atR s 45)) 46 = true) (hn : ¬ ((takB dgP (atR s 45)).size > 12 ∨ (takB dgP (tl (drpB dgP (atR s 45)))).size = 0 ∨ (takB dgP (tl (drpB dgP (atR s 45)))).size > 3)) :
    Half s 2 (takB dgP (tl (drpB dgP (atR s 45))) ++ zer (takB dgP (tl (drpB dgP (atR s 45)))).size) (drpB dgP (tl (drpB dgP (atR s 45)))) := by
  refine ⟨?_, Or.inr rfl, fun _ => by omega, by rw [ByteArray.size_append, zer_size _ (by omega)]; omega, app_digits (tak_all _ _) (zer_digits _)⟩
  rw [rdNumber_eq, if_neg h, if_pos hd, if_neg hn]
  rw [if_neg (fun h' => h'.elim h (fun h' => absurd h'.1 (by decide)))]
theorem number_dead (s : ByteArray) (h : ¬ (takB dgP (atR s 45)).size = 0) (hd : atF (drpB dgP (atR s 45)) 46 = true) (hn : (takB dgP (atR s 45)).size > 12 ∨ (takB dgP (tl (drpB dgP (atR s 45)))).size = 0 ∨ (takB dgP (tl (drpB dgP (atR s 45)))).size > 3) : rdNumber s = none := by
  rw [rdNumber_eq, if_neg h, if_pos hd, if_pos hn]
set_option maxHeartbeats 4000000 in
set_option maxRecDepth 100000 in
theorem number_calls (g : Nat) (s : ByteArray) (w : World) (hs : s.size ≤ 9223372036854775806) (hI : Rd w g s) :
    Calls Tryd.prog 44 #[.pointer (some ⟨g, 0, none⟩)] w fun e w' => Gives g w encP (rdNumber s) e w' := by
  have hz1 : (atR s 45).size ≤ 9223372036854775806 := Nat.le_trans (atR_size _ _) hs
  have hz2 : (drpB dgP (atR s 45)).size ≤ 9223372036854775806 := Nat.le_trans (drp_size _ _) hz1
  have hz3 : (tl (drpB dgP (atR s 45))).size ≤ 9223372036854775806 := Nat.le_trans (tl_size _) hz2
  have hA1 := Aside0.mk (fun W (h : Rd W g s) => at_calls g s 45 W h)
  have hW1 := Aside0.mk (fun W (h : Rd W g (atR s 45)) => while_digit g (atR s 45) W hz1 h)
  have hA2 := Aside0.mk (fun W (h : Rd W g (drpB dgP (atR s 45))) => at_calls g _ 46 W h)
  have hW2 := Aside0.mk (fun W (h : Rd W g (tl (drpB dgP (atR s 45)))) => while_digit g _ W hz3 h)
  have hI1 := Aside0.mk (hI.alloc (.cells #[.string ⟨#[]⟩, .int .i64 0, .int .i64 0, .string ⟨#[]⟩] 52))
  have hP1 := Aside0.mk (PB.new w)
  have hK1 := Aside0.mk ((KB.refl g w).alloc (.cells #[.string ⟨#[]⟩, .int .i64 0, .int .i64 0, .string ⟨#[]⟩] 52))
  have hne : w.heap.size ≠ g := by have := hI.lt; omega
  clear hI
  go_enter Tryd.func44, Tryd.ntmps44
  go_upto_if 10 with (first | (go_at_call 48; refine (hA1.out _ hI1.out).mono ?_; rintro e w2 ⟨rfl, hR2, hB2⟩))
  have hP2 := Aside0.mk (hP1.out.kb hB2 hne)
  have hK2 := Aside0.mk (hK1.out.trans hB2)
  have hR2 := Aside0.mk hR2
  clear hI1 hP1 hK1 hA1 hB2
  go_cut [3] (fun v3 wc => v3 = .int .i64 (sgn s) ∧ Aside0 (Rd wc g (atR s 45)) ∧ Aside0 (PB wc w.heap.size ⟨#[]⟩ 0 0 ⟨#[]⟩) ∧ Aside0 (KB g w wc))
  case first =>
    cases h : atF s 45 with
    | true =>
      have hsg : sgn s = -1 := if_pos h
      go_wp2
      go_meet
      case rel => exact ⟨by rw [hsg], hR2, hP2, hK2⟩
    | false =>
      have hsg : sgn s = 1 := if_neg (by rw [h]; decide)
      go_wp2
      go_meet
      case rel => exact ⟨by rw [hsg], hR2, hP2, hK2⟩
  case rest =>
    clear hR2 hP2 hK2
    obtain ⟨rfl, hR2, hP2, hK2⟩ := hcut
    go_upto_region 7 with (first | (go_at_call 46; refine (hW1.out _ hR2.out).mono ?_; rintro e w3 ⟨rfl, hR3, hB3⟩))
    have hR4 := Aside0.mk (hR3.alloc (.cells #[.string ⟨#[]⟩, .int .i64 1, .int .i64 0, .string ⟨#[]⟩] 52))
    have hP4 := Aside0.mk ((hP2.out.kb hB3 hne).alloc (.cells #[.string ⟨#[]⟩, .int .i64 1, .int .i64 0, .string ⟨#[]⟩] 52))
    have hQ4 : Aside0 (PB (w3.alloc (.cells #[.string ⟨#[]⟩, .int .i64 1, .int .i64 0, .string ⟨#[]⟩] 52)) w3.heap.size ⟨#[]⟩ 1 0 ⟨#[]⟩) := ⟨by
      have := blk_new w3 (.cells #[.string ⟨#[]⟩, .int .i64 1, .int .i64 0, .string ⟨#[]⟩] 52); simpa [PB] using this⟩
    have hK4 := Aside0.mk ((hK2.out.trans hB3).alloc (.cells #[.string ⟨#[]⟩, .int .i64 1, .int .i64 0, .string ⟨#[]⟩] 52))
    have hne2 : w3.heap.size ≠ g := by have := hR3.lt; omega
    have hge : w.heap.size ≤ w3.heap.size := Nat.le_trans hK2.out.size hB3.size
    have hne3 : w.heap.size ≠ w3.heap.size := by have := blk_lt (hP2.out.kb hB3 hne); omega
    clear hR2 hP2 hK2 hB3 hR3 hW1
    generalize w3.alloc (.cells #[.string ⟨#[]⟩, .int .i64 1, .int .i64 0, .string ⟨#[]⟩] 52) = w4 at *
    generalize w3.heap.size = pb at *
    go_cut [20] (fun v20 wc => ∃ (b : Bool) (rest : ByteArray), v20 = .bool b ∧ Aside0 (Rd wc g rest) ∧ Aside0 (PB wc w.heap.size ⟨#[]⟩ 0 0 ⟨#[]⟩) ∧ Aside0 (PB wc pb ⟨#[]⟩ 1 0 ⟨#[]⟩) ∧ Aside0 (KB g w wc) ∧ Aside0 (if b = true then ¬ (takB dgP (atR s 45)).size = 0 ∧ atF (drpB dgP (atR s 45)) 46 = true ∧ rest = tl (drpB dgP (atR s 45)) else Half s 1 ⟨#[]⟩ rest))
    case first =>
      by_cases hn : (takB dgP (atR s 45)).size = 0
      · have hx := Aside0.mk (Half.none s hn (drpB dgP (atR s 45)))
        have hd : decide (0 < ((takB dgP (atR s 45)).size : Int)) = false := decide_eq_false (by omega)
        have hd2 : decide (0 < (takB dgP (atR s 45)).size) = false := decide_eq_false (by omega)
        clear hn
        go_wp2
        go_meet
        case rel => exact ⟨false, _, rfl, hR4, hP4, hQ4, hK4, by simpa using hx⟩
      · have hd : decide (0 < ((takB dgP (atR s 45)).size : Int)) = true := decide_eq_true (by omega)
        have hd2 : decide (0 < (takB dgP (atR s 45)).size) = true := decide_eq_true (by omega)
        cases h : atF (drpB dgP (atR s 45)) 46 with
        | false =>
          have hx := Aside0.mk (Half.plain s hn h)
          have er : atR (drpB dgP (atR s 45)) 46 = drpB dgP (atR s 45) := if_neg (by rw [h]; decide)
          clear hn
          go_wp2_with (first | (go_at_call 48; refine (hA2.out _ hR4.out).mono ?_; rw [h]; rintro e w5 ⟨rfl, hR5, hB5⟩))
          go_meet
          case rel => exact ⟨false, _, rfl, ⟨er ▸ hR5⟩, ⟨hP4.out.kb hB5 hne⟩, ⟨hQ4.out.kb hB5 hne2⟩, ⟨hK4.out.trans hB5⟩, by simpa using hx⟩
        | true =>
          have er : atR (drpB dgP (atR s 45)) 46 = tl (drpB dgP (atR s 45)) := if_pos h
          have hx : Aside0 (¬ (takB dgP (atR s 45)).size = 0 ∧ atF (drpB dgP (atR s 45)) 46 = true ∧ tl (drpB dgP (atR s 45)) = tl (drpB dgP (atR s 45))) := ⟨hn, h, rfl⟩
          clear hn
          go_wp2_with (first | (go_at_call 48; refine (hA2.out _ hR4.out).mono ?_; rw [h]; rintro e w5 ⟨rfl, hR5, hB5⟩))
          go_meet
          case rel => exact ⟨true, tl (drpB dgP (atR s 45)), rfl, ⟨er ▸ hR5⟩, ⟨hP4.out.kb hB5 hne⟩, ⟨hQ4.out.kb hB5 hne2⟩, ⟨hK4.out.trans hB5⟩, ⟨by rw [if_pos rfl]; exact ⟨hx.out.1, hx.out.2.1, rfl⟩⟩⟩
    case rest =>
      clear hR4 hP4 hQ4 hK4 hA2
      obtain ⟨b, rest, rfl, hR5, hP5, hQ5, hK5, hX⟩ := hcut
      go_upto_if 20 with (fail)
      go_cut [6] (fun v6 wc => ∃ (kd : Int) (pt rest : ByteArray), v6 = .string pt ∧ Aside0 (Rd wc g rest) ∧ Aside0 (PB wc w.heap.size ⟨#[]⟩ 0 0 ⟨#[]⟩) ∧ Aside0 (PB wc pb ⟨#[]⟩ kd 0 ⟨#[]⟩) ∧ Aside0 (KB g w wc) ∧ Aside0 (Half s kd pt rest))
      case first =>
        cases b with
        | false =>
          have hx : Aside0 (Half s 1 ⟨#[]⟩ rest) := by simpa using hX
          clear hX
          go_wp2
          go_meet
          case rel => exact ⟨1, _, rest, rfl, hR5, hP5, hQ5, hK5, hx⟩
        | true =>
          have hx : ¬ (takB dgP (atR s 45)).size = 0 ∧ atF (drpB dgP (atR s 45)) 46 = true ∧ rest = tl (drpB dgP (atR s 45)) := by have := hX.out; simpa using this
          obtain ⟨hn, hat, rfl⟩ := hx
          clear hX
          have hc1 := hQ5.out.c1
          have hf1 := hQ5.out.fr 1
          have hR6 : Aside0 (Rd (wc.setCell ⟨pb, 1, none⟩ (.int .i64 2)) g (tl (drpB dgP (atR s 45)))) := ⟨hR5.out.far (p := ⟨pb, 1, none⟩) (fun e => hne2 e.symm) _⟩
          have hP6 : Aside0 (PB (wc.setCell ⟨pb, 1, none⟩ (.int .i64 2)) w.heap.size ⟨#[]⟩ 0 0 ⟨#[]⟩) := ⟨hP5.out.far (p := ⟨pb, 1, none⟩) hne3 _⟩
          have hQ6 : Aside0 (PB (wc.setCell ⟨pb, 1, none⟩ (.int .i64 2)) pb ⟨#[]⟩ 2 0 ⟨#[]⟩) := ⟨by have := blk_set hQ5.out 1 (.int .i64 2); simpa [PB] using this⟩
          have hK6 : Aside0 (KB g w (wc.setCell ⟨pb, 1, none⟩ (.int .i64 2))) := ⟨hK5.out.far (p := ⟨pb, 1, none⟩) hge _⟩
          clear hR5 hP5 hQ5 hK5
          by_cases hbad : (takB dgP (atR s 45)).size > 12 ∨ (takB dgP (tl (drpB dgP (atR s 45)))).size = 0 ∨ (takB dgP (tl (drpB dgP (atR s 45)))).size > 3
          · have hdead := Aside0.mk (number_dead s hn hat hbad)
            by_cases e1 : (takB dgP (atR s 45)).size > 12
            · have d1 : decide (12 < ((takB dgP (atR s 45)).size : Int)) = true := decide_eq_true (by omega)
              have d1b : decide (12 < (takB dgP (atR s 45)).size) = true := decide_eq_true (by omega)
              clear hn hat hbad e1
              go_wp2_with (first | (go_at_call 46; refine (hW2.out _ hR6.out).mono ?_; rintro e w6 ⟨rfl, hR7, hB7⟩) | (go_at_call 42; refine (fail_calls _ _).mono ?_; rintro e w' ⟨rfl, rfl⟩))
              exact ⟨rfl, Gives.dead hdead.out (hK6.out.trans hB7)⟩
            · have d1 : decide (12 < ((takB dgP (atR s 45)).size : Int)) = false := decide_eq_false (by omega)
              have d1b : decide (12 < (takB dgP (atR s 45)).size) = false := decide_eq_false (by omega)
              by_cases e2 : 0 < (takB dgP (tl (drpB dgP (atR s 45)))).size
              · have d2 := (nonempty_ne _ e2).1
                have d3 : decide (3 < ((takB dgP (tl (drpB dgP (atR s 45)))).size : Int)) = true := decide_eq_true (by omega)
                have d3b : decide (3 < (takB dgP (tl (drpB dgP (atR s 45)))).size) = true := decide_eq_true (by omega)
                clear hn hat hbad e1 e2
                go_wp2_with (first | (go_at_call 46; refine (hW2.out _ hR6.out).mono ?_; rintro e w6 ⟨rfl, hR7, hB7⟩) | (go_at_call 42; refine (fail_calls _ _).mono ?_; rintro e w' ⟨rfl, rfl⟩))
                exact ⟨rfl, Gives.dead hdead.out (hK6.out.trans hB7)⟩
              · have d2 := (empty_eq _ e2).1
                clear hn hat hbad e1 e2
                go_wp2_with (first | (go_at_call 46; refine (hW2.out _ hR6.out).mono ?_; rintro e w6 ⟨rfl, hR7, hB7⟩) | (go_at_call 42; refine (fail_calls _ _).mono ?_; rintro e w' ⟨rfl, rfl⟩))
                exact ⟨rfl, Gives.dead hdead.out (hK6.out.trans hB7)⟩
          · have hx := Aside0.mk (Half.dot s hn hat hbad)
            have d1 : decide (12 < ((takB dgP (atR s 45)).size : Int)) = false := decide_eq_false (by omega)
            have d1b : decide (12 < (takB dgP (atR s 45)).size) = false := decide_eq_false (by omega)
            have d2 := (nonempty_ne (takB dgP (tl (drpB dgP (atR s 45)))) (by omega)).1
            have d3 : decide (3 < ((takB dgP (tl (drpB dgP (atR s 45)))).size : Int)) = false := decide_eq_false (by omega)
            have d3b : decide (3 < (takB dgP (tl (drpB dgP (atR s 45)))).size) = false := decide_eq_false (by omega)
            have d4 : (takB dgP (tl (drpB dgP (atR s 45)))).size ≤ 3 := by omega
            have d5 : ((takB dgP (tl (drpB dgP (atR s 45)))).size : Int) ≤ 3 := by omega
            clear hn hat hbad
            go_wp2_with (first | (go_at_call 46; refine (hW2.out _ hR6.out).mono ?_; rintro e w6 ⟨rfl, hR7, hB7⟩))
            go_meet
            case rel => exact ⟨2, _, _, rfl, ⟨hR7⟩, ⟨hP6.out.kb hB7 hne⟩, ⟨hQ6.out.kb hB7 hne2⟩, ⟨hK6.out.trans hB7⟩, hx⟩
      case rest =>
        clear hR5 hP5 hQ5 hK5 hX hW2
        obtain ⟨kd, pt, rest, rfl, hR6, hP6, hQ6, hK6, hH⟩ := hcut
        by_cases h0 : (takB dgP (atR s 45)).size = 0
        · have hdead := Aside0.mk (hH.out.1.trans (if_pos (Or.inl h0)))
          have d1 := (empty_eq (takB dgP (atR s 45)) (by omega)).1
          have hc1 := hQ6.out.c1
          have hf1 := hQ6.out.fr 1
          clear h0 hH
          go_wp2_with (first | (go_at_call 42; refine (fail_calls _ _).mono ?_; rintro e w' ⟨rfl, rfl⟩))
          exact ⟨rfl, Gives.dead hdead.out hK6.out⟩
        · rcases hH.out.2.1 with rfl | rfl
          · by_cases h15 : (takB dgP (atR s 45)).size > 15
            · have hdead := Aside0.mk (hH.out.1.trans (if_pos (Or.inr ⟨rfl, h15⟩)))
              have d1 := (nonempty_ne (takB dgP (atR s 45)) (by omega)).1
              have d2 : decide (15 < ((takB dgP (atR s 45)).size : Int)) = true := decide_eq_true (by omega)
              have d2b : decide (15 < (takB dgP (atR s 45)).size) = true := decide_eq_true (by omega)
              have hc1 := hQ6.out.c1
              have hf1 := hQ6.out.fr 1
              clear h0 hH h15
              go_wp2_with (first | (go_at_call 42; refine (fail_calls _ _).mono ?_; rintro e w' ⟨rfl, rfl⟩))
              exact ⟨rfl, Gives.dead hdead.out hK6.out⟩
            · skip
              obtain ⟨hE, _, hk2, hp3, hpd⟩ := hH.out
              have hG := Aside0.mk (hE.trans (if_neg (by omega)))
              have hsz : (takB dgP (atR s 45) ++ pt).size ≤ 18 := by rw [ByteArray.size_append]; omega
              have hpos : 0 < (takB dgP (atR s 45) ++ pt).size := by rw [ByteArray.size_append]; omega
              have hat := atoi_digits _ hpos (app_digits (tak_all dgP _) hpd)
              have hbd := numV_bound _ (app_digits (tak_all dgP (atR s 45)) hpd) hsz
              have hAt := Aside0.mk (fun W => Tryd.strconv_Atoi _ _ hsz hat W)
              have hm : wrap64 (sgn s * (numV (takB dgP (atR s 45) ++ pt) : Int)) = sgn s * (numV (takB dgP (atR s 45) ++ pt) : Int) := by
                refine IntWalk.wrap64_in _ ?_
                unfold sgn
                split <;> constructor <;> omega
              have hM := Aside0.mk hm
              have d1 := (nonempty_ne _ (show 0 < (takB dgP (atR s 45)).size by omega)).1
              have hlen : (takB dgP (atR s 45)).size + pt.size ≤ 18 := by rw [ByteArray.size_append] at hsz; exact hsz
              have d2 : decide (15 < ((takB dgP (atR s 45)).size : Int)) = false := decide_eq_false (by omega)
              have d2b : decide (15 < (takB dgP (atR s 45)).size) = false := decide_eq_false (by omega)
              have hc1 := hQ6.out.c1
              have hf1 := hQ6.out.fr 1
              clear hE hk2 hp3 hpd hH hsz hpos hat hbd hm
              generalize (numV (takB dgP (atR s 45) ++ pt) : Int) = nv at *
              generalize sgn s = sg at *
              clear h0
              go_upto_region 15 with (fail)
              clear hc1 hf1
              go_upto_region 16 with (first | (go_at_call 61; refine (hAt.out _).mono ?_; rintro e w7 ⟨rfl, t, hw7⟩; have hB7 : Below wc.heap.size wc w7 := (by rw [hw7]; exact bytes_below (Below.refl _ _) (Nat.le_refl _) _ _); clear hw7))
              have hR7 := Aside0.mk (show Rd w7 g rest from blk_below hR6.out hB7)
              have hP7 := Aside0.mk (show PB w7 w.heap.size ⟨#[]⟩ 0 0 ⟨#[]⟩ from blk_below hP6.out hB7)
              have hQ7 := Aside0.mk (show PB w7 pb ⟨#[]⟩ 1 0 ⟨#[]⟩ from blk_below hQ6.out hB7)
              have hK7 := Aside0.mk (hK6.out.below hB7)
              clear hB7 hR6 hP6 hQ6 hK6
              have hc2 := hQ7.out.c2
              have hf2 := hQ7.out.fr 2
              have hm := hM.out
              (try clear d1 d2 d2b); (try clear hlen)
              go_upto_region 17 with (fail)
              have hR8 := Aside0.mk (hR7.out.far (p := ⟨pb, 2, none⟩) (fun e => hne2 e.symm) (.int .i64 (sg * nv)))
              have hP8 := Aside0.mk (hP7.out.far (p := ⟨pb, 2, none⟩) hne3 (.int .i64 (sg * nv)))
              have hQ8 := Aside0.mk (hQ7.out.set2 (sg * nv))
              have hK8 := Aside0.mk (hK7.out.far (p := ⟨pb, 2, none⟩) hge (.int .i64 (sg * nv)))
              clear hR7 hP7 hQ7 hK7 hc2 hf2 hm hM
              generalize w7.setCell ⟨pb, 2, none⟩ (.int .i64 (sg * nv)) = w8 at *
              have hq0 := hQ8.out.c0
              have hq1 := hQ8.out.c1
              have hq2 := hQ8.out.c2
              have hq3 := hQ8.out.c3
              have hp0 := hP8.out.c0
              have hp1 := hP8.out.c1
              have hp2 := hP8.out.c2
              have hp3 := hP8.out.c3
              have hf0 := hP8.out.fr 0
              have hf1 := hP8.out.fr 1
              have hf2 := hP8.out.fr 2
              have hf3 := hP8.out.fr 3
              go_wp2
              refine bodyPost_ret (results_cell_row rfl _ _ w.heap.size 52 #[.string ⟨#[]⟩, .int .i64 1, .int .i64 (sg * nv), .string ⟨#[]⟩] (0, 0) _ rfl (hP8.out.put ⟨#[]⟩ 1 (sg * nv) ⟨#[]⟩) Tryd.underlying52 rfl (by kernel_rfl)) rfl ?_
              exact Gives.ok hG.out rfl (hR8.out.put (fun e => hne e.symm) _ _ _ _) (hK8.out.put (Nat.le_refl _) _ _ _ _)
          · skip
            obtain ⟨hE, _, hk2, hp3, hpd⟩ := hH.out
            have hG := Aside0.mk (hE.trans (if_neg (by omega)))
            have hsz : (takB dgP (atR s 45) ++ pt).size ≤ 18 := by rw [ByteArray.size_append]; omega
            have hpos : 0 < (takB dgP (atR s 45) ++ pt).size := by rw [ByteArray.size_append]; omega
            have hat := atoi_digits _ hpos (app_digits (tak_all dgP _) hpd)
            have hbd := numV_bound _ (app_digits (tak_all dgP (atR s 45)) hpd) hsz
            have hAt := Aside0.mk (fun W => Tryd.strconv_Atoi _ _ hsz hat W)
            have hm : wrap64 (sgn s * (numV (takB dgP (atR s 45) ++ pt) : Int)) = sgn s * (numV (takB dgP (atR s 45) ++ pt) : Int) := by
              refine IntWalk.wrap64_in _ ?_
              unfold sgn
              split <;> constructor <;> omega
            have hM := Aside0.mk hm
            have d1 := (nonempty_ne _ (show 0 < (takB dgP (atR s 45)).size by omega)).1
            have hlen : (takB dgP (atR s 45)).size + pt.size ≤ 18 := by rw [ByteArray.size_append] at hsz; exact hsz
            have hk := hk2 rfl
            have hc1 := hQ6.out.c1
            have hf1 := hQ6.out.fr 1
            clear hE hk2 hp3 hpd hH hsz hpos hat hbd hm
            generalize (numV (takB dgP (atR s 45) ++ pt) : Int) = nv at *
            generalize sgn s = sg at *
            clear h0 hk
            go_upto_region 15 with (fail)
            clear hc1 hf1
            go_upto_region 16 with (first | (go_at_call 61; refine (hAt.out _).mono ?_; rintro e w7 ⟨rfl, t, hw7⟩; have hB7 : Below wc.heap.size wc w7 := (by rw [hw7]; exact bytes_below (Below.refl _ _) (Nat.le_refl _) _ _); clear hw7))
            have hR7 := Aside0.mk (show Rd w7 g rest from blk_below hR6.out hB7)
            have hP7 := Aside0.mk (show PB w7 w.heap.size ⟨#[]⟩ 0 0 ⟨#[]⟩ from blk_below hP6.out hB7)
            have hQ7 := Aside0.mk (show PB w7 pb ⟨#[]⟩ 2 0 ⟨#[]⟩ from blk_below hQ6.out hB7)
            have hK7 := Aside0.mk (hK6.out.below hB7)
            clear hB7 hR6 hP6 hQ6 hK6
            have hc2 := hQ7.out.c2
            have hf2 := hQ7.out.fr 2
            have hm := hM.out
            (try clear d1 d2 d2b); (try clear hlen)
            go_upto_region 17 with (fail)
            have hR8 := Aside0.mk (hR7.out.far (p := ⟨pb, 2, none⟩) (fun e => hne2 e.symm) (.int .i64 (sg * nv)))
            have hP8 := Aside0.mk (hP7.out.far (p := ⟨pb, 2, none⟩) hne3 (.int .i64 (sg * nv)))
            have hQ8 := Aside0.mk (hQ7.out.set2 (sg * nv))
            have hK8 := Aside0.mk (hK7.out.far (p := ⟨pb, 2, none⟩) hge (.int .i64 (sg * nv)))
            clear hR7 hP7 hQ7 hK7 hc2 hf2 hm hM
            generalize w7.setCell ⟨pb, 2, none⟩ (.int .i64 (sg * nv)) = w8 at *
            have hq0 := hQ8.out.c0
            have hq1 := hQ8.out.c1
            have hq2 := hQ8.out.c2
            have hq3 := hQ8.out.c3
            have hp0 := hP8.out.c0
            have hp1 := hP8.out.c1
            have hp2 := hP8.out.c2
            have hp3 := hP8.out.c3
            have hf0 := hP8.out.fr 0
            have hf1 := hP8.out.fr 1
            have hf2 := hP8.out.fr 2
            have hf3 := hP8.out.fr 3
            go_wp2
            refine bodyPost_ret (results_cell_row rfl _ _ w.heap.size 52 #[.string ⟨#[]⟩, .int .i64 2, .int .i64 (sg * nv), .string ⟨#[]⟩] (0, 0) _ rfl (hP8.out.put ⟨#[]⟩ 2 (sg * nv) ⟨#[]⟩) Tryd.underlying52 rfl (by kernel_rfl)) rfl ?_
            exact Gives.ok hG.out rfl (hR8.out.put (fun e => hne e.symm) _ _ _ _) (hK8.out.put (Nat.le_refl _) _ _ _ _)

end Go.Proofs.YtciigmlibnpeeaaDoor.Sf
