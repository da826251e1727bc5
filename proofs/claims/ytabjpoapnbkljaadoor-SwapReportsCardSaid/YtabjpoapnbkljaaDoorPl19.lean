/- Chapter 19 in plain words: when two origins are one, when two policies match, when a group is opened. -/
import Derived.Test.YtabjpoapnbkljaaDoorQx7
namespace Go.Proofs.YtabjpoapnbkljaaDoor.Pl
open Go.RowKit Go.Proofs.YtabjpoapnbkljaaDoor.Q Go.Proofs.YtabjpoapnbkljaaDoorW.PrintWords Go.Proofs.YtabjpoapnbkljaaDoorW.PrintLast
set_option linter.unusedVariables false
set_option linter.unusedSimpArgs false
def sameO (n0 : Bool) (n1 : Int) (n2 : ByteArray) (n3 : ByteArray) (n4 : Bool) (n5 : Int) (n6 : Int) (x0 : Bool) (x1 : Int) (x2 : ByteArray) (x3 : ByteArray) (x4 : Bool) (x5 : Int) (x6 : Int) : Bool := if n0 = true then x0 && (n1 == x1) else !x0 && (n2.toList == x2.toList && (n3.toList == x3.toList && (n4 == x4 && (n5 == x5 && (n6 == x6)))))
theorem same_f (n0 : Bool) (n1 : Int) (n2 : ByteArray) (n3 : ByteArray) (n4 : Bool) (n5 : Int) (n6 : Int) (x0 : Bool) (x1 : Int) (x2 : ByteArray) (x3 : ByteArray) (x4 : Bool) (x5 : Int) (x6 : Int) : origin_Same.f n0 n1 n2 n3 n4 n5 n6 x0 x1 x2 x3 x4 x5 x6 = some (sameO n0 n1 n2 n3 n4 n5 n6 x0 x1 x2 x3 x4 x5 x6) := by
  unfold origin_Same.f origin_bare.f sameO
  cases n0 <;> cases x0 <;> simp [Bool.and_assoc]
theorem bcomm {α : Type} [BEq α] [LawfulBEq α] (a b : α) : (a == b) = (b == a) := by
  rw [Bool.eq_iff_iff, beq_iff_eq, beq_iff_eq]; exact eq_comm
theorem same_comm (n0 : Bool) (n1 : Int) (n2 : ByteArray) (n3 : ByteArray) (n4 : Bool) (n5 : Int) (n6 : Int) (x0 : Bool) (x1 : Int) (x2 : ByteArray) (x3 : ByteArray) (x4 : Bool) (x5 : Int) (x6 : Int) : sameO n0 n1 n2 n3 n4 n5 n6 x0 x1 x2 x3 x4 x5 x6 = sameO x0 x1 x2 x3 x4 x5 x6 n0 n1 n2 n3 n4 n5 n6 := by
  unfold sameO
  rw [bcomm n1, bcomm n2.toList, bcomm n3.toList, bcomm n4, bcomm n5, bcomm n6]
  cases n0 <;> cases x0 <;> simp
theorem same_refl (n0 : Bool) (n1 : Int) (n2 : ByteArray) (n3 : ByteArray) (n4 : Bool) (n5 : Int) (n6 : Int) : sameO n0 n1 n2 n3 n4 n5 n6 n0 n1 n2 n3 n4 n5 n6 = true := by unfold sameO; cases n0 <;> simp
def matchB (a : Int) (n0 : Bool) (n1 : Int) (n2 : ByteArray) (n3 : ByteArray) (n4 : Bool) (n5 : Int) (n6 : Int) (b : Int) (x0 : Bool) (x1 : Int) (x2 : ByteArray) (x3 : ByteArray) (x4 : Bool) (x5 : Int) (x6 : Int) : Bool := (a == b) && ((a == 0) || sameO n0 n1 n2 n3 n4 n5 n6 x0 x1 x2 x3 x4 x5 x6)
theorem match_f (a : Int) (n0 : Bool) (n1 : Int) (n2 : ByteArray) (n3 : ByteArray) (n4 : Bool) (n5 : Int) (n6 : Int) (b : Int) (x0 : Bool) (x1 : Int) (x2 : ByteArray) (x3 : ByteArray) (x4 : Bool) (x5 : Int) (x6 : Int) : swap_Match.f a n0 n1 n2 n3 n4 n5 n6 b x0 x1 x2 x3 x4 x5 x6 = some (matchB a n0 n1 n2 n3 n4 n5 n6 b x0 x1 x2 x3 x4 x5 x6) := by
  unfold swap_Match.f matchB
  rw [same_f]
  by_cases h : a = b
  · rw [if_pos h]
    by_cases h0 : a = 0
    · rw [if_pos h0]; simp [← h, h0]
    · rw [if_neg h0]; simp [← h, h0]
  · rw [if_neg h]; simp [h]
def swapB (f : Bool) (a : Int) (n0 : Bool) (n1 : Int) (n2 : ByteArray) (n3 : ByteArray) (n4 : Bool) (n5 : Int) (n6 : Int) (b : Int) (x0 : Bool) (x1 : Int) (x2 : ByteArray) (x3 : ByteArray) (x4 : Bool) (x5 : Int) (x6 : Int) : Bool := !(f && (a == 1) && (b == 0)) && !matchB a n0 n1 n2 n3 n4 n5 n6 b x0 x1 x2 x3 x4 x5 x6
theorem swap_f (f : Bool) (a : Int) (n0 : Bool) (n1 : Int) (n2 : ByteArray) (n3 : ByteArray) (n4 : Bool) (n5 : Int) (n6 : Int) (b : Int) (x0 : Bool) (x1 : Int) (x2 : ByteArray) (x3 : ByteArray) (x4 : Bool) (x5 : Int) (x6 : Int) : swap_Swap.f f a n0 n1 n2 n3 n4 n5 n6 b x0 x1 x2 x3 x4 x5 x6 = some (swapB f a n0 n1 n2 n3 n4 n5 n6 b x0 x1 x2 x3 x4 x5 x6) := by
  unfold swap_Swap.f swapB
  rw [match_f]
  cases f
  · simp
  · by_cases h : a = 1 <;> by_cases h2 : b = 0 <;> simp [h, h2]
def opensB (f : Bool) (a : Int) (n0 : Bool) (n1 : Int) (n2 : ByteArray) (n3 : ByteArray) (n4 : Bool) (n5 : Int) (n6 : Int) (b rep : Int) (x0 : Bool) (x1 : Int) (x2 : ByteArray) (x3 : ByteArray) (x4 : Bool) (x5 : Int) (x6 : Int) : Bool := !(rep == 0) && swapB f a n0 n1 n2 n3 n4 n5 n6 b x0 x1 x2 x3 x4 x5 x6
theorem opens_f (f : Bool) (a : Int) (n0 : Bool) (n1 : Int) (n2 : ByteArray) (n3 : ByteArray) (n4 : Bool) (n5 : Int) (n6 : Int) (b rep : Int) (x0 : Bool) (x1 : Int) (x2 : ByteArray) (x3 : ByteArray) (x4 : Bool) (x5 : Int) (x6 : Int) : opensOf f n0 n1 n2 n3 n4 n5 n6 x0 x1 x2 x3 x4 x5 x6 a b rep = some (opensB f a n0 n1 n2 n3 n4 n5 n6 b rep x0 x1 x2 x3 x4 x5 x6) := by
  unfold opensOf opensB
  rw [swap_f]
  by_cases h : rep = 0 <;> simp [h]
theorem awake_f : glacislaw19_awake.f 5 = some true := by kernel_rfl
theorem short_f (n0 : Bool) (n1 : Int) (n2 : ByteArray) (n3 : ByteArray) (n4 : Bool) (n5 : Int) (n6 : Int) (x0 : Bool) (x1 : Int) (x2 : ByteArray) (x3 : ByteArray) (x4 : Bool) (x5 : Int) (x6 : Int) : glacislaw19_short.f n0 n1 n2 n3 n4 n5 n6 x0 x1 x2 x3 x4 x5 x6 = some (decide ((n3.size : Int) ≤ 1000) && decide ((x3.size : Int) ≤ 1000)) := by
  unfold glacislaw19_short.f
  by_cases h : (n3.size : Int) ≤ 1000 <;> simp [h]
end Go.Proofs.YtabjpoapnbkljaaDoor.Pl
