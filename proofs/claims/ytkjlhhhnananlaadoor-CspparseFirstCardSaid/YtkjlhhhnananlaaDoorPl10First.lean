/- Chapter 10 in plain words: the policy of two texts with a semicolon between. -/
import Derived.Test.YtkjlhhhnananlaaDoorPl10Back
namespace Go.Proofs.YtkjlhhhnananlaaDoor.Pl
open Go.RowKit Go.Proofs.YtkjlhhhnananlaaDoor.Q Go.Proofs.YtkjlhhhnananlaaDoorW.PrintWords Go.Proofs.YtkjlhhhnananlaaDoorW.PrintLast
set_option linter.unusedVariables false
set_option linter.unusedSimpArgs false
theorem parts_glue (s m : ByteArray) : partsAt ((s ++ (⟨#[59]⟩ : ByteArray)) ++ m) = partsAt s ++ partsAt m := by
  refine map_data_inj ?_
  have h := parts_dl ((s ++ (⟨#[59]⟩ : ByteArray)) ++ m)
  have e : dl ((s ++ (⟨#[59]⟩ : ByteArray)) ++ m) = dl s ++ (59 : UInt8) :: dl m := by rw [dl_app, dl_app, show dl (⟨#[59]⟩ : ByteArray) = [59] from rfl]; simp
  rw [e, splitL_glue qS 59 (by decide), ← parts_dl, ← parts_dl, ← List.map_append] at h
  exact h
theorem firstOf_app (n : ByteArray) (a b : List (List ByteArray)) : firstOf n (a ++ b) = (firstOf n a).or (firstOf n b) := by
  unfold firstOf
  rw [List.find?_append]
  cases a.find? (headIs n) <;> rfl
theorem dirWords_app (a b : List ByteArray) : dirWords (a ++ b) = dirWords a ++ dirWords b := List.map_append
/-- The policy of a text behind another, behind a semicolon. -/
def overPol (p q : Bool × List ByteArray × Bool × List ByteArray) : Bool × List ByteArray × Bool × List ByteArray :=
  (p.1 || q.1, if p.1 = true then p.2.1 else q.2.1, p.2.2.1 || q.2.2.1, if p.2.2.1 = true then p.2.2.2 else q.2.2.2)
theorem pol_glue (s m : ByteArray) : polOf ((s ++ (⟨#[59]⟩ : ByteArray)) ++ m) = overPol (polOf s) (polOf m) := by
  unfold polOf overPol
  rw [parts_glue, dirWords_app, firstOf_app, firstOf_app]
  cases firstOf ancName (dirWords (partsAt s)) <;> cases firstOf boxName (dirWords (partsAt s)) <;> simp
theorem pol_other (s : ByteArray) : polOf ((⟨#[105, 109, 103, 45, 115, 114, 99, 32, 120, 59]⟩ : ByteArray) ++ s) = polOf s := by
  have e : (⟨#[105, 109, 103, 45, 115, 114, 99, 32, 120, 59]⟩ : ByteArray) = (⟨#[105, 109, 103, 45, 115, 114, 99, 32, 120]⟩ : ByteArray) ++ (⟨#[59]⟩ : ByteArray) := by decide
  rw [e, pol_glue, show polOf (⟨#[105, 109, 103, 45, 115, 114, 99, 32, 120]⟩ : ByteArray) = (false, [], false, []) by kernel_rfl]
  unfold overPol
  simp
end Go.Proofs.YtkjlhhhnananlaaDoor.Pl
