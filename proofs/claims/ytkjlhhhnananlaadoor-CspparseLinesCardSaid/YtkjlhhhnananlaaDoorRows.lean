/-
  NARROWER THAN 'FOR EVERY INPUT', by the rows' own cells (each row's printed sentence says how): CspparseReads: laid · CspparseHeads: laid · CspparseTells: laid · CspparseBack: laid · CspparseFirst: laid · CspparseLines: laid.
  DERIVED. THE GIVEN ROWS OF THIS SEAT. 6 by the template 'for every input the law returns true; each argument reads behind the call as it read before'; 0 by the template 'total and deterministic' (their statements: YtkjlhhhnananlaaDoorTotals.lean).
  GIVEN WITH THE SEED: the statements are not yours to turn. If you find one false, say at which input.
  Laid BY PROGRAM, IN A SANDBOX (cutbox-rows.mjs): the forced cells as the released guide's own fill.sh prints them over the translation 028de5749b40ad70… (all of the seat's roots in one cut). By AI agents, Wed Nov 11 2026. No macro, syntax, notation, axiom, sorry.
-/
import Derived.Test.YtkjlhhhnananlaaDoorChecked
import GoSem.PinnedTables
import GoSem.Claim
import GoSem.ClaimJoined
import GoSem.ClaimMapViews
import Derived.JoinedTies
import Derived.KernelRfl
namespace Go.Proofs.YtkjlhhhnananlaaDoor
/- THE CELL 'sum', in the pinned program and in every row, IS THE sha256 OF THE DUMP (.gsa) THAT YtkjlhhhnananlaaDoorProg.lean LOADS. Nothing in Lean hashes anything: it is a label: what it is worth is what the hold of that sum in a sandbox is worth. -/
noncomputable def Tryd.pinned : Pinned := { name := "ytkjlhhhnananlaadoor", sum := "028de5749b40ad7082bd48c6426750732472678be165d2c1f24372eda8544b8e", checked := Tryd.checked }
namespace Rows
def none {H : Type} : Left H := { results := [], args := [] }

/- WHAT THE LISTED PACKAGE-LEVEL VARIABLES READ AS WHEN THE CALL BEGINS. Each datum BY PROGRAM (the guide's laid-datum.mjs) off the statement by which the dump's own 'gosem.cut.vars' lays the variable. In a bare row this is a premise. The card (YtkjlhhhnananlaaDoorCards.lean) ties it to the program's text. -/
def laid_unicode_utf8_acceptRanges {H : Type} : DataW H := .agg [.agg [.lit (.int .u8 128), .lit (.int .u8 191)], .agg [.lit (.int .u8 160), .lit (.int .u8 191)], .agg [.lit (.int .u8 128), .lit (.int .u8 159)], .agg [.lit (.int .u8 144), .lit (.int .u8 191)], .agg [.lit (.int .u8 128), .lit (.int .u8 143)], .agg [.lit (.int .u8 0), .lit (.int .u8 0)], .agg [.lit (.int .u8 0), .lit (.int .u8 0)], .agg [.lit (.int .u8 0), .lit (.int .u8 0)], .agg [.lit (.int .u8 0), .lit (.int .u8 0)], .agg [.lit (.int .u8 0), .lit (.int .u8 0)], .agg [.lit (.int .u8 0), .lit (.int .u8 0)], .agg [.lit (.int .u8 0), .lit (.int .u8 0)], .agg [.lit (.int .u8 0), .lit (.int .u8 0)], .agg [.lit (.int .u8 0), .lit (.int .u8 0)], .agg [.lit (.int .u8 0), .lit (.int .u8 0)], .agg [.lit (.int .u8 0), .lit (.int .u8 0)]]
/-- One of Go's own tables, pinned by name: the form's constant. -/
def laid_unicode_utf8_first : DataW Unit := Go.Pinned.utf8First

/-- 'glacislaw10.CspparseReads': WHATEVER THE INPUT: true; the input reads as it did. -/
def cspparseReadsSpec : ChangeSpec := { name := "cspparseReads", fn := fun _ => fun
  | [d] => { results := [.lit (.bool true)], args := [d] }
  | _ => none }
def cspparseReadsRow : OpenClaim := { program := "ytkjlhhhnananlaadoor", sum := "028de5749b40ad7082bd48c6426750732472678be165d2c1f24372eda8544b8e", func := "glacis/glacislaw10.CspparseReads", spec := "cspparseReads", inPlace := ["internal/bytealg.IndexByteString", "internal/bytealg.IndexString", "internal/abi.NoEscape", "internal/bytealg.MakeNoZero"], unfollowed := true, recurses := true, named := ["unicode/utf8.first", "unicode/utf8.acceptRanges", "internal/bytealg.MaxLen"], apart := false, laid := [("unicode/utf8.acceptRanges", laid_unicode_utf8_acceptRanges), ("unicode/utf8.first", laid_unicode_utf8_first)] }
def CspparseReadsSaid : Prop := cspparseReadsRow.holds Tryd.pinned (OpenSpec.ofChange cspparseReadsSpec)

/-- ITS FALSE NEIGHBOUR: 'it returns false'. Refute it at one input. -/
def cspparseReadsWrong : ChangeSpec := { name := "cspparseReads", fn := fun _ => fun
  | [d] => { results := [.lit (.bool false)], args := [d] }
  | _ => none }
def CspparseReadsWrongFalsely : Prop := cspparseReadsRow.holds Tryd.pinned (OpenSpec.ofChange cspparseReadsWrong)

/-- 'glacislaw10.CspparseHeads': WHATEVER THE INPUT: true; the input reads as it did. -/
def cspparseHeadsSpec : ChangeSpec := { name := "cspparseHeads", fn := fun _ => fun
  | [d] => { results := [.lit (.bool true)], args := [d] }
  | _ => none }
def cspparseHeadsRow : OpenClaim := { program := "ytkjlhhhnananlaadoor", sum := "028de5749b40ad7082bd48c6426750732472678be165d2c1f24372eda8544b8e", func := "glacis/glacislaw10.CspparseHeads", spec := "cspparseHeads", inPlace := ["internal/bytealg.IndexByteString", "internal/bytealg.IndexString", "internal/abi.NoEscape", "internal/bytealg.MakeNoZero"], unfollowed := true, recurses := true, named := ["unicode/utf8.first", "unicode/utf8.acceptRanges", "internal/bytealg.MaxLen"], apart := false, laid := [("unicode/utf8.acceptRanges", laid_unicode_utf8_acceptRanges), ("unicode/utf8.first", laid_unicode_utf8_first)] }
def CspparseHeadsSaid : Prop := cspparseHeadsRow.holds Tryd.pinned (OpenSpec.ofChange cspparseHeadsSpec)

/-- ITS FALSE NEIGHBOUR: 'it returns false'. Refute it at one input. -/
def cspparseHeadsWrong : ChangeSpec := { name := "cspparseHeads", fn := fun _ => fun
  | [d] => { results := [.lit (.bool false)], args := [d] }
  | _ => none }
def CspparseHeadsWrongFalsely : Prop := cspparseHeadsRow.holds Tryd.pinned (OpenSpec.ofChange cspparseHeadsWrong)

/-- 'glacislaw10.CspparseTells': WHATEVER THE INPUT: true; the input reads as it did. -/
def cspparseTellsSpec : ChangeSpec := { name := "cspparseTells", fn := fun _ => fun
  | [d] => { results := [.lit (.bool true)], args := [d] }
  | _ => none }
def cspparseTellsRow : OpenClaim := { program := "ytkjlhhhnananlaadoor", sum := "028de5749b40ad7082bd48c6426750732472678be165d2c1f24372eda8544b8e", func := "glacis/glacislaw10.CspparseTells", spec := "cspparseTells", inPlace := ["internal/bytealg.IndexByteString", "internal/bytealg.IndexString", "internal/abi.NoEscape", "internal/bytealg.MakeNoZero"], unfollowed := true, recurses := true, named := ["unicode/utf8.first", "unicode/utf8.acceptRanges", "internal/bytealg.MaxLen"], apart := false, laid := [("unicode/utf8.acceptRanges", laid_unicode_utf8_acceptRanges), ("unicode/utf8.first", laid_unicode_utf8_first)] }
def CspparseTellsSaid : Prop := cspparseTellsRow.holds Tryd.pinned (OpenSpec.ofChange cspparseTellsSpec)

/-- ITS FALSE NEIGHBOUR: 'it returns false'. Refute it at one input. -/
def cspparseTellsWrong : ChangeSpec := { name := "cspparseTells", fn := fun _ => fun
  | [d] => { results := [.lit (.bool false)], args := [d] }
  | _ => none }
def CspparseTellsWrongFalsely : Prop := cspparseTellsRow.holds Tryd.pinned (OpenSpec.ofChange cspparseTellsWrong)

/-- 'glacislaw10.CspparseBack': WHATEVER THE INPUT: true; the input reads as it did. -/
def cspparseBackSpec : ChangeSpec := { name := "cspparseBack", fn := fun _ => fun
  | [d] => { results := [.lit (.bool true)], args := [d] }
  | _ => none }
def cspparseBackRow : OpenClaim := { program := "ytkjlhhhnananlaadoor", sum := "028de5749b40ad7082bd48c6426750732472678be165d2c1f24372eda8544b8e", func := "glacis/glacislaw10.CspparseBack", spec := "cspparseBack", inPlace := ["internal/bytealg.IndexByteString", "internal/bytealg.IndexString", "internal/abi.NoEscape", "internal/bytealg.MakeNoZero"], unfollowed := true, recurses := true, named := ["unicode/utf8.first", "unicode/utf8.acceptRanges", "internal/bytealg.MaxLen"], apart := false, laid := [("unicode/utf8.acceptRanges", laid_unicode_utf8_acceptRanges), ("unicode/utf8.first", laid_unicode_utf8_first)] }
def CspparseBackSaid : Prop := cspparseBackRow.holds Tryd.pinned (OpenSpec.ofChange cspparseBackSpec)

/-- ITS FALSE NEIGHBOUR: 'it returns false'. Refute it at one input. -/
def cspparseBackWrong : ChangeSpec := { name := "cspparseBack", fn := fun _ => fun
  | [d] => { results := [.lit (.bool false)], args := [d] }
  | _ => none }
def CspparseBackWrongFalsely : Prop := cspparseBackRow.holds Tryd.pinned (OpenSpec.ofChange cspparseBackWrong)

/-- 'glacislaw10.CspparseFirst': WHATEVER THE INPUT: true; the input reads as it did. -/
def cspparseFirstSpec : ChangeSpec := { name := "cspparseFirst", fn := fun _ => fun
  | [d1, d2] => { results := [.lit (.bool true)], args := [d1, d2] }
  | _ => none }
def cspparseFirstRow : OpenClaim := { program := "ytkjlhhhnananlaadoor", sum := "028de5749b40ad7082bd48c6426750732472678be165d2c1f24372eda8544b8e", func := "glacis/glacislaw10.CspparseFirst", spec := "cspparseFirst", inPlace := ["internal/bytealg.IndexByteString", "internal/bytealg.IndexString", "internal/abi.NoEscape", "internal/bytealg.MakeNoZero"], unfollowed := true, recurses := true, named := ["unicode/utf8.first", "unicode/utf8.acceptRanges", "internal/bytealg.MaxLen"], apart := false, laid := [("unicode/utf8.acceptRanges", laid_unicode_utf8_acceptRanges), ("unicode/utf8.first", laid_unicode_utf8_first)] }
def CspparseFirstSaid : Prop := cspparseFirstRow.holds Tryd.pinned (OpenSpec.ofChange cspparseFirstSpec)

/-- ITS FALSE NEIGHBOUR: 'it returns false'. Refute it at one input. -/
def cspparseFirstWrong : ChangeSpec := { name := "cspparseFirst", fn := fun _ => fun
  | [d1, d2] => { results := [.lit (.bool false)], args := [d1, d2] }
  | _ => none }
def CspparseFirstWrongFalsely : Prop := cspparseFirstRow.holds Tryd.pinned (OpenSpec.ofChange cspparseFirstWrong)

/-- 'glacislaw10.CspparseLines': WHATEVER THE INPUT: true; the input reads as it did. -/
def cspparseLinesSpec : ChangeSpec := { name := "cspparseLines", fn := fun _ => fun
  | [d1, d2] => { results := [.lit (.bool true)], args := [d1, d2] }
  | _ => none }
def cspparseLinesRow : OpenClaim := { program := "ytkjlhhhnananlaadoor", sum := "028de5749b40ad7082bd48c6426750732472678be165d2c1f24372eda8544b8e", func := "glacis/glacislaw10.CspparseLines", spec := "cspparseLines", inPlace := ["internal/bytealg.IndexByteString", "internal/bytealg.IndexString", "internal/abi.NoEscape", "internal/bytealg.MakeNoZero"], unfollowed := true, recurses := true, named := ["unicode/utf8.first", "unicode/utf8.acceptRanges", "internal/bytealg.MaxLen"], apart := false, laid := [("unicode/utf8.acceptRanges", laid_unicode_utf8_acceptRanges), ("unicode/utf8.first", laid_unicode_utf8_first)] }
def CspparseLinesSaid : Prop := cspparseLinesRow.holds Tryd.pinned (OpenSpec.ofChange cspparseLinesSpec)

/-- ITS FALSE NEIGHBOUR: 'it returns false'. Refute it at one input. -/
def cspparseLinesWrong : ChangeSpec := { name := "cspparseLines", fn := fun _ => fun
  | [d1, d2] => { results := [.lit (.bool false)], args := [d1, d2] }
  | _ => none }
def CspparseLinesWrongFalsely : Prop := cspparseLinesRow.holds Tryd.pinned (OpenSpec.ofChange cspparseLinesWrong)

/- THE SECOND FORM. 'bulk': how many values and letters a reading holds, each counted each time it is reached (what is shared counts as often as it is met; a slice's spare places count too). A statement '..UptoSaid' is the law's where the arguments, and the package variables that the reading takes, are together of bulk at most 1048576: NARROWER than '..Said'. Prove '..Said' where nothing that the law and all that it calls make is longer than what came in: it says more and counts as full. Else prove '..UptoSaid'. A law counts once. -/
mutual
def uptoBulk {H : Type} : DataW H → Nat
  | .lit (.string bytes) => bytes.length + 1
  | .lit _ => 1
  | .nil => 1
  | .ptr d => uptoBulk d + 1
  | .slice elems spare => uptoBulkAll elems + uptoBulkAll spare + 1
  | .agg parts => uptoBulkAll parts + 1
  | .iface _ d => uptoBulk d + 1
  | .map entries => uptoBulkEntries entries + 1
  | .held _ => 1
def uptoBulkAll {H : Type} : List (DataW H) → Nat
  | [] => 0
  | d :: r => uptoBulk d + uptoBulkAll r
def uptoBulkEntries {H : Type} : List (Lit × DataW H) → Nat
  | [] => 0
  | x :: r => uptoBulkEntry x + uptoBulkEntries r
def uptoBulkEntry {H : Type} : Lit × DataW H → Nat
  | (.string bytes, d) => bytes.length + uptoBulk d + 1
  | (_, d) => uptoBulk d + 1
 end
def uptoSmall : (H : Type) → List (DataW H) → Bool := fun _ ds => decide (uptoBulkAll ds ≤ 1048576)
def OpenSpec.upto (s : _root_.Go.ChangeSpec) : _root_.Go.OpenSpec := { _root_.Go.OpenSpec.ofChange s with cond := some uptoSmall }

/-- 'glacislaw10.CspparseReads', WHERE WHAT IT READS IS OF BULK AT MOST 1048576: true; the input reads as it did. -/
def cspparseReadsUptoRow : OpenClaim := { program := "ytkjlhhhnananlaadoor", sum := "028de5749b40ad7082bd48c6426750732472678be165d2c1f24372eda8544b8e", func := "glacis/glacislaw10.CspparseReads", spec := "cspparseReads", inPlace := ["internal/bytealg.IndexByteString", "internal/bytealg.IndexString", "internal/abi.NoEscape", "internal/bytealg.MakeNoZero"], unfollowed := true, recurses := true, named := ["unicode/utf8.first", "unicode/utf8.acceptRanges", "internal/bytealg.MaxLen"], apart := false, laid := [("unicode/utf8.acceptRanges", laid_unicode_utf8_acceptRanges), ("unicode/utf8.first", laid_unicode_utf8_first)], narrowed := true }
def CspparseReadsUptoSaid : Prop := cspparseReadsUptoRow.holds Tryd.pinned (OpenSpec.upto cspparseReadsSpec)

/-- 'glacislaw10.CspparseHeads', WHERE WHAT IT READS IS OF BULK AT MOST 1048576: true; the input reads as it did. -/
def cspparseHeadsUptoRow : OpenClaim := { program := "ytkjlhhhnananlaadoor", sum := "028de5749b40ad7082bd48c6426750732472678be165d2c1f24372eda8544b8e", func := "glacis/glacislaw10.CspparseHeads", spec := "cspparseHeads", inPlace := ["internal/bytealg.IndexByteString", "internal/bytealg.IndexString", "internal/abi.NoEscape", "internal/bytealg.MakeNoZero"], unfollowed := true, recurses := true, named := ["unicode/utf8.first", "unicode/utf8.acceptRanges", "internal/bytealg.MaxLen"], apart := false, laid := [("unicode/utf8.acceptRanges", laid_unicode_utf8_acceptRanges), ("unicode/utf8.first", laid_unicode_utf8_first)], narrowed := true }
def CspparseHeadsUptoSaid : Prop := cspparseHeadsUptoRow.holds Tryd.pinned (OpenSpec.upto cspparseHeadsSpec)

/-- 'glacislaw10.CspparseTells', WHERE WHAT IT READS IS OF BULK AT MOST 1048576: true; the input reads as it did. -/
def cspparseTellsUptoRow : OpenClaim := { program := "ytkjlhhhnananlaadoor", sum := "028de5749b40ad7082bd48c6426750732472678be165d2c1f24372eda8544b8e", func := "glacis/glacislaw10.CspparseTells", spec := "cspparseTells", inPlace := ["internal/bytealg.IndexByteString", "internal/bytealg.IndexString", "internal/abi.NoEscape", "internal/bytealg.MakeNoZero"], unfollowed := true, recurses := true, named := ["unicode/utf8.first", "unicode/utf8.acceptRanges", "internal/bytealg.MaxLen"], apart := false, laid := [("unicode/utf8.acceptRanges", laid_unicode_utf8_acceptRanges), ("unicode/utf8.first", laid_unicode_utf8_first)], narrowed := true }
def CspparseTellsUptoSaid : Prop := cspparseTellsUptoRow.holds Tryd.pinned (OpenSpec.upto cspparseTellsSpec)

/-- 'glacislaw10.CspparseBack', WHERE WHAT IT READS IS OF BULK AT MOST 1048576: true; the input reads as it did. -/
def cspparseBackUptoRow : OpenClaim := { program := "ytkjlhhhnananlaadoor", sum := "028de5749b40ad7082bd48c6426750732472678be165d2c1f24372eda8544b8e", func := "glacis/glacislaw10.CspparseBack", spec := "cspparseBack", inPlace := ["internal/bytealg.IndexByteString", "internal/bytealg.IndexString", "internal/abi.NoEscape", "internal/bytealg.MakeNoZero"], unfollowed := true, recurses := true, named := ["unicode/utf8.first", "unicode/utf8.acceptRanges", "internal/bytealg.MaxLen"], apart := false, laid := [("unicode/utf8.acceptRanges", laid_unicode_utf8_acceptRanges), ("unicode/utf8.first", laid_unicode_utf8_first)], narrowed := true }
def CspparseBackUptoSaid : Prop := cspparseBackUptoRow.holds Tryd.pinned (OpenSpec.upto cspparseBackSpec)

/-- 'glacislaw10.CspparseFirst', WHERE WHAT IT READS IS OF BULK AT MOST 1048576: true; the input reads as it did. -/
def cspparseFirstUptoRow : OpenClaim := { program := "ytkjlhhhnananlaadoor", sum := "028de5749b40ad7082bd48c6426750732472678be165d2c1f24372eda8544b8e", func := "glacis/glacislaw10.CspparseFirst", spec := "cspparseFirst", inPlace := ["internal/bytealg.IndexByteString", "internal/bytealg.IndexString", "internal/abi.NoEscape", "internal/bytealg.MakeNoZero"], unfollowed := true, recurses := true, named := ["unicode/utf8.first", "unicode/utf8.acceptRanges", "internal/bytealg.MaxLen"], apart := false, laid := [("unicode/utf8.acceptRanges", laid_unicode_utf8_acceptRanges), ("unicode/utf8.first", laid_unicode_utf8_first)], narrowed := true }
def CspparseFirstUptoSaid : Prop := cspparseFirstUptoRow.holds Tryd.pinned (OpenSpec.upto cspparseFirstSpec)

/-- 'glacislaw10.CspparseLines', WHERE WHAT IT READS IS OF BULK AT MOST 1048576: true; the input reads as it did. -/
def cspparseLinesUptoRow : OpenClaim := { program := "ytkjlhhhnananlaadoor", sum := "028de5749b40ad7082bd48c6426750732472678be165d2c1f24372eda8544b8e", func := "glacis/glacislaw10.CspparseLines", spec := "cspparseLines", inPlace := ["internal/bytealg.IndexByteString", "internal/bytealg.IndexString", "internal/abi.NoEscape", "internal/bytealg.MakeNoZero"], unfollowed := true, recurses := true, named := ["unicode/utf8.first", "unicode/utf8.acceptRanges", "internal/bytealg.MaxLen"], apart := false, laid := [("unicode/utf8.acceptRanges", laid_unicode_utf8_acceptRanges), ("unicode/utf8.first", laid_unicode_utf8_first)], narrowed := true }
def CspparseLinesUptoSaid : Prop := cspparseLinesUptoRow.holds Tryd.pinned (OpenSpec.upto cspparseLinesSpec)

end Rows
end Go.Proofs.YtkjlhhhnananlaaDoor
