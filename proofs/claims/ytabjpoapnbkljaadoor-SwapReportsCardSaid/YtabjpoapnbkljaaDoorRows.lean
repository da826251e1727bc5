/-
  NARROWER THAN 'FOR EVERY INPUT', by the rows' own cells (each row's printed sentence says how): SwapTells: laid · SwapSides: laid · SwapIsolates: laid · SwapReports: laid · SwapFirst: laid.
  DERIVED. THE GIVEN ROWS OF THIS SEAT. 5 by the template 'for every input the law returns true; each argument reads behind the call as it read before'; 0 by the template 'total and deterministic' (their statements: YtabjpoapnbkljaaDoorTotals.lean).
  GIVEN WITH THE SEED: the statements are not yours to turn. If you find one false, say at which input.
  Laid BY PROGRAM, IN A SANDBOX (cutbox-rows.mjs): the forced cells as the released guide's own fill.sh prints them over the translation bd679a3491e83a5f… (all of the seat's roots in one cut). By AI agents, Wed Nov 11 2026. No macro, syntax, notation, axiom, sorry.
-/
import Derived.Test.YtabjpoapnbkljaaDoorChecked
import GoSem.PinnedTables
import GoSem.Claim
import GoSem.ClaimJoined
import GoSem.ClaimMapViews
import Derived.JoinedTies
import Derived.KernelRfl
namespace Go.Proofs.YtabjpoapnbkljaaDoor
/- THE CELL 'sum', in the pinned program and in every row, IS THE sha256 OF THE DUMP (.gsa) THAT YtabjpoapnbkljaaDoorProg.lean LOADS. Nothing in Lean hashes anything: it is a label: what it is worth is what the hold of that sum in a sandbox is worth. -/
noncomputable def Tryd.pinned : Pinned := { name := "ytabjpoapnbkljaadoor", sum := "bd679a3491e83a5fed30c557c62e79380e75eaa0385f284a739df5dfda29a827", checked := Tryd.checked }
namespace Rows
def none {H : Type} : Left H := { results := [], args := [] }

/- WHAT THE LISTED PACKAGE-LEVEL VARIABLES READ AS WHEN THE CALL BEGINS. Each datum BY PROGRAM (the guide's laid-datum.mjs) off the statement by which the dump's own 'gosem.cut.vars' lays the variable. In a bare row this is a premise. The card (YtabjpoapnbkljaaDoorCards.lean) ties it to the program's text. -/
def laid_unicode_utf8_acceptRanges {H : Type} : DataW H := .agg [.agg [.lit (.int .u8 128), .lit (.int .u8 191)], .agg [.lit (.int .u8 160), .lit (.int .u8 191)], .agg [.lit (.int .u8 128), .lit (.int .u8 159)], .agg [.lit (.int .u8 144), .lit (.int .u8 191)], .agg [.lit (.int .u8 128), .lit (.int .u8 143)], .agg [.lit (.int .u8 0), .lit (.int .u8 0)], .agg [.lit (.int .u8 0), .lit (.int .u8 0)], .agg [.lit (.int .u8 0), .lit (.int .u8 0)], .agg [.lit (.int .u8 0), .lit (.int .u8 0)], .agg [.lit (.int .u8 0), .lit (.int .u8 0)], .agg [.lit (.int .u8 0), .lit (.int .u8 0)], .agg [.lit (.int .u8 0), .lit (.int .u8 0)], .agg [.lit (.int .u8 0), .lit (.int .u8 0)], .agg [.lit (.int .u8 0), .lit (.int .u8 0)], .agg [.lit (.int .u8 0), .lit (.int .u8 0)], .agg [.lit (.int .u8 0), .lit (.int .u8 0)]]
/-- One of Go's own tables, pinned by name: the form's constant. -/
def laid_unicode_utf8_first : DataW Unit := Go.Pinned.utf8First

/-- 'glacislaw19.SwapTells': WHATEVER THE INPUT: true; the input reads as it did. -/
def swapTellsSpec : ChangeSpec := { name := "swapTells", fn := fun _ => fun
  | [d1, d2, d3, d4, d5] => { results := [.lit (.bool true)], args := [d1, d2, d3, d4, d5] }
  | _ => none }
def swapTellsRow : OpenClaim := { program := "ytabjpoapnbkljaadoor", sum := "bd679a3491e83a5fed30c557c62e79380e75eaa0385f284a739df5dfda29a827", func := "glacis/glacislaw19.SwapTells", spec := "swapTells", inPlace := ["internal/bytealg.IndexByteString", "internal/bytealg.IndexString", "internal/bytealg.CountString", "internal/abi.NoEscape", "internal/bytealg.MakeNoZero"], unfollowed := true, recurses := true, named := ["internal/bytealg.MaxLen", "unicode/utf8.first", "unicode/utf8.acceptRanges"], apart := false, laid := [("unicode/utf8.acceptRanges", laid_unicode_utf8_acceptRanges), ("unicode/utf8.first", laid_unicode_utf8_first)] }
def SwapTellsSaid : Prop := swapTellsRow.holds Tryd.pinned (OpenSpec.ofChange swapTellsSpec)

/-- ITS FALSE NEIGHBOUR: 'it returns false'. Refute it at one input. -/
def swapTellsWrong : ChangeSpec := { name := "swapTells", fn := fun _ => fun
  | [d1, d2, d3, d4, d5] => { results := [.lit (.bool false)], args := [d1, d2, d3, d4, d5] }
  | _ => none }
def SwapTellsWrongFalsely : Prop := swapTellsRow.holds Tryd.pinned (OpenSpec.ofChange swapTellsWrong)

/-- 'glacislaw19.SwapSides': WHATEVER THE INPUT: true; the input reads as it did. -/
def swapSidesSpec : ChangeSpec := { name := "swapSides", fn := fun _ => fun
  | [d1, d2, d3, d4, d5] => { results := [.lit (.bool true)], args := [d1, d2, d3, d4, d5] }
  | _ => none }
def swapSidesRow : OpenClaim := { program := "ytabjpoapnbkljaadoor", sum := "bd679a3491e83a5fed30c557c62e79380e75eaa0385f284a739df5dfda29a827", func := "glacis/glacislaw19.SwapSides", spec := "swapSides", inPlace := ["internal/bytealg.IndexByteString", "internal/bytealg.IndexString", "internal/bytealg.CountString", "internal/abi.NoEscape", "internal/bytealg.MakeNoZero"], unfollowed := true, recurses := true, named := ["internal/bytealg.MaxLen", "unicode/utf8.first", "unicode/utf8.acceptRanges"], apart := false, laid := [("unicode/utf8.acceptRanges", laid_unicode_utf8_acceptRanges), ("unicode/utf8.first", laid_unicode_utf8_first)] }
def SwapSidesSaid : Prop := swapSidesRow.holds Tryd.pinned (OpenSpec.ofChange swapSidesSpec)

/-- ITS FALSE NEIGHBOUR: 'it returns false'. Refute it at one input. -/
def swapSidesWrong : ChangeSpec := { name := "swapSides", fn := fun _ => fun
  | [d1, d2, d3, d4, d5] => { results := [.lit (.bool false)], args := [d1, d2, d3, d4, d5] }
  | _ => none }
def SwapSidesWrongFalsely : Prop := swapSidesRow.holds Tryd.pinned (OpenSpec.ofChange swapSidesWrong)

/-- 'glacislaw19.SwapIsolates': WHATEVER THE INPUT: true; the input reads as it did. -/
def swapIsolatesSpec : ChangeSpec := { name := "swapIsolates", fn := fun _ => fun
  | [d1, d2, d3, d4] => { results := [.lit (.bool true)], args := [d1, d2, d3, d4] }
  | _ => none }
def swapIsolatesRow : OpenClaim := { program := "ytabjpoapnbkljaadoor", sum := "bd679a3491e83a5fed30c557c62e79380e75eaa0385f284a739df5dfda29a827", func := "glacis/glacislaw19.SwapIsolates", spec := "swapIsolates", inPlace := ["internal/bytealg.IndexByteString", "internal/bytealg.IndexString", "internal/bytealg.CountString", "internal/abi.NoEscape", "internal/bytealg.MakeNoZero"], unfollowed := true, recurses := true, named := ["internal/bytealg.MaxLen", "unicode/utf8.first", "unicode/utf8.acceptRanges"], apart := false, laid := [("unicode/utf8.acceptRanges", laid_unicode_utf8_acceptRanges), ("unicode/utf8.first", laid_unicode_utf8_first)] }
def SwapIsolatesSaid : Prop := swapIsolatesRow.holds Tryd.pinned (OpenSpec.ofChange swapIsolatesSpec)

/-- ITS FALSE NEIGHBOUR: 'it returns false'. Refute it at one input. -/
def swapIsolatesWrong : ChangeSpec := { name := "swapIsolates", fn := fun _ => fun
  | [d1, d2, d3, d4] => { results := [.lit (.bool false)], args := [d1, d2, d3, d4] }
  | _ => none }
def SwapIsolatesWrongFalsely : Prop := swapIsolatesRow.holds Tryd.pinned (OpenSpec.ofChange swapIsolatesWrong)

/-- 'glacislaw19.SwapReports': WHATEVER THE INPUT: true; the input reads as it did. -/
def swapReportsSpec : ChangeSpec := { name := "swapReports", fn := fun _ => fun
  | [d1, d2, d3, d4, d5] => { results := [.lit (.bool true)], args := [d1, d2, d3, d4, d5] }
  | _ => none }
def swapReportsRow : OpenClaim := { program := "ytabjpoapnbkljaadoor", sum := "bd679a3491e83a5fed30c557c62e79380e75eaa0385f284a739df5dfda29a827", func := "glacis/glacislaw19.SwapReports", spec := "swapReports", inPlace := ["internal/bytealg.IndexByteString", "internal/bytealg.IndexString", "internal/bytealg.CountString", "internal/abi.NoEscape", "internal/bytealg.MakeNoZero"], unfollowed := true, recurses := true, named := ["internal/bytealg.MaxLen", "unicode/utf8.first", "unicode/utf8.acceptRanges"], apart := false, laid := [("unicode/utf8.acceptRanges", laid_unicode_utf8_acceptRanges), ("unicode/utf8.first", laid_unicode_utf8_first)] }
def SwapReportsSaid : Prop := swapReportsRow.holds Tryd.pinned (OpenSpec.ofChange swapReportsSpec)

/-- ITS FALSE NEIGHBOUR: 'it returns false'. Refute it at one input. -/
def swapReportsWrong : ChangeSpec := { name := "swapReports", fn := fun _ => fun
  | [d1, d2, d3, d4, d5] => { results := [.lit (.bool false)], args := [d1, d2, d3, d4, d5] }
  | _ => none }
def SwapReportsWrongFalsely : Prop := swapReportsRow.holds Tryd.pinned (OpenSpec.ofChange swapReportsWrong)

/-- 'glacislaw19.SwapFirst': WHATEVER THE INPUT: true; the input reads as it did. -/
def swapFirstSpec : ChangeSpec := { name := "swapFirst", fn := fun _ => fun
  | [d1, d2, d3, d4] => { results := [.lit (.bool true)], args := [d1, d2, d3, d4] }
  | _ => none }
def swapFirstRow : OpenClaim := { program := "ytabjpoapnbkljaadoor", sum := "bd679a3491e83a5fed30c557c62e79380e75eaa0385f284a739df5dfda29a827", func := "glacis/glacislaw19.SwapFirst", spec := "swapFirst", inPlace := ["internal/bytealg.IndexByteString", "internal/bytealg.IndexString", "internal/bytealg.CountString", "internal/abi.NoEscape", "internal/bytealg.MakeNoZero"], unfollowed := true, recurses := true, named := ["internal/bytealg.MaxLen", "unicode/utf8.first", "unicode/utf8.acceptRanges"], apart := false, laid := [("unicode/utf8.acceptRanges", laid_unicode_utf8_acceptRanges), ("unicode/utf8.first", laid_unicode_utf8_first)] }
def SwapFirstSaid : Prop := swapFirstRow.holds Tryd.pinned (OpenSpec.ofChange swapFirstSpec)

/-- ITS FALSE NEIGHBOUR: 'it returns false'. Refute it at one input. -/
def swapFirstWrong : ChangeSpec := { name := "swapFirst", fn := fun _ => fun
  | [d1, d2, d3, d4] => { results := [.lit (.bool false)], args := [d1, d2, d3, d4] }
  | _ => none }
def SwapFirstWrongFalsely : Prop := swapFirstRow.holds Tryd.pinned (OpenSpec.ofChange swapFirstWrong)

/- THE SECOND FORM. 'bulk': how many values and letters a reading holds, each counted each time it is reached (what is shared counts as often as it is met; a slice's spare places count too). A statement '..UptoSaid' is the law's where the arguments, and the package variables that the reading takes, are together of bulk at most 1048576: NARROWER than '..Said'. Prove '..Said' where nothing that the law and all that it calls make is longer than what came in: it says more and counts as full. Else prove '..UptoSaid'. A law counts once. -/
mutual
def uptoBulk {H : Type} : DataW H → Nat
  | .lit (.string bytes) => bytes.length + 1
  | .lit _ => 1
  | .nil => 1
  | .ptr d => uptoBulk d + 1
  | .slice elems spare => uptoBulkAll elems + uptoBulkAll spare + 1
  | .agg parts => uptoBulkAll parts + 1
  | .iface _ d => uptoBulk d + 1
  | .map entries => uptoBulkEntries entries + 1
  | .held _ => 1
def uptoBulkAll {H : Type} : List (DataW H) → Nat
  | [] => 0
  | d :: r => uptoBulk d + uptoBulkAll r
def uptoBulkEntries {H : Type} : List (Lit × DataW H) → Nat
  | [] => 0
  | x :: r => uptoBulkEntry x + uptoBulkEntries r
def uptoBulkEntry {H : Type} : Lit × DataW H → Nat
  | (.string bytes, d) => bytes.length + uptoBulk d + 1
  | (_, d) => uptoBulk d + 1
 end
def uptoSmall : (H : Type) → List (DataW H) → Bool := fun _ ds => decide (uptoBulkAll ds ≤ 1048576)
def OpenSpec.upto (s : _root_.Go.ChangeSpec) : _root_.Go.OpenSpec := { _root_.Go.OpenSpec.ofChange s with cond := some uptoSmall }

/-- 'glacislaw19.SwapTells', WHERE WHAT IT READS IS OF BULK AT MOST 1048576: true; the input reads as it did. -/
def swapTellsUptoRow : OpenClaim := { program := "ytabjpoapnbkljaadoor", sum := "bd679a3491e83a5fed30c557c62e79380e75eaa0385f284a739df5dfda29a827", func := "glacis/glacislaw19.SwapTells", spec := "swapTells", inPlace := ["internal/bytealg.IndexByteString", "internal/bytealg.IndexString", "internal/bytealg.CountString", "internal/abi.NoEscape", "internal/bytealg.MakeNoZero"], unfollowed := true, recurses := true, named := ["internal/bytealg.MaxLen", "unicode/utf8.first", "unicode/utf8.acceptRanges"], apart := false, laid := [("unicode/utf8.acceptRanges", laid_unicode_utf8_acceptRanges), ("unicode/utf8.first", laid_unicode_utf8_first)], narrowed := true }
def SwapTellsUptoSaid : Prop := swapTellsUptoRow.holds Tryd.pinned (OpenSpec.upto swapTellsSpec)

/-- 'glacislaw19.SwapSides', WHERE WHAT IT READS IS OF BULK AT MOST 1048576: true; the input reads as it did. -/
def swapSidesUptoRow : OpenClaim := { program := "ytabjpoapnbkljaadoor", sum := "bd679a3491e83a5fed30c557c62e79380e75eaa0385f284a739df5dfda29a827", func := "glacis/glacislaw19.SwapSides", spec := "swapSides", inPlace := ["internal/bytealg.IndexByteString", "internal/bytealg.IndexString", "internal/bytealg.CountString", "internal/abi.NoEscape", "internal/bytealg.MakeNoZero"], unfollowed := true, recurses := true, named := ["internal/bytealg.MaxLen", "unicode/utf8.first", "unicode/utf8.acceptRanges"], apart := false, laid := [("unicode/utf8.acceptRanges", laid_unicode_utf8_acceptRanges), ("unicode/utf8.first", laid_unicode_utf8_first)], narrowed := true }
def SwapSidesUptoSaid : Prop := swapSidesUptoRow.holds Tryd.pinned (OpenSpec.upto swapSidesSpec)

/-- 'glacislaw19.SwapIsolates', WHERE WHAT IT READS IS OF BULK AT MOST 1048576: true; the input reads as it did. -/
def swapIsolatesUptoRow : OpenClaim := { program := "ytabjpoapnbkljaadoor", sum := "bd679a3491e83a5fed30c557c62e79380e75eaa0385f284a739df5dfda29a827", func := "glacis/glacislaw19.SwapIsolates", spec := "swapIsolates", inPlace := ["internal/bytealg.IndexByteString", "internal/bytealg.IndexString", "internal/bytealg.CountString", "internal/abi.NoEscape", "internal/bytealg.MakeNoZero"], unfollowed := true, recurses := true, named := ["internal/bytealg.MaxLen", "unicode/utf8.first", "unicode/utf8.acceptRanges"], apart := false, laid := [("unicode/utf8.acceptRanges", laid_unicode_utf8_acceptRanges), ("unicode/utf8.first", laid_unicode_utf8_first)], narrowed := true }
def SwapIsolatesUptoSaid : Prop := swapIsolatesUptoRow.holds Tryd.pinned (OpenSpec.upto swapIsolatesSpec)

/-- 'glacislaw19.SwapReports', WHERE WHAT IT READS IS OF BULK AT MOST 1048576: true; the input reads as it did. -/
def swapReportsUptoRow : OpenClaim := { program := "ytabjpoapnbkljaadoor", sum := "bd679a3491e83a5fed30c557c62e79380e75eaa0385f284a739df5dfda29a827", func := "glacis/glacislaw19.SwapReports", spec := "swapReports", inPlace := ["internal/bytealg.IndexByteString", "internal/bytealg.IndexString", "internal/bytealg.CountString", "internal/abi.NoEscape", "internal/bytealg.MakeNoZero"], unfollowed := true, recurses := true, named := ["internal/bytealg.MaxLen", "unicode/utf8.first", "unicode/utf8.acceptRanges"], apart := false, laid := [("unicode/utf8.acceptRanges", laid_unicode_utf8_acceptRanges), ("unicode/utf8.first", laid_unicode_utf8_first)], narrowed := true }
def SwapReportsUptoSaid : Prop := swapReportsUptoRow.holds Tryd.pinned (OpenSpec.upto swapReportsSpec)

/-- 'glacislaw19.SwapFirst', WHERE WHAT IT READS IS OF BULK AT MOST 1048576: true; the input reads as it did. -/
def swapFirstUptoRow : OpenClaim := { program := "ytabjpoapnbkljaadoor", sum := "bd679a3491e83a5fed30c557c62e79380e75eaa0385f284a739df5dfda29a827", func := "glacis/glacislaw19.SwapFirst", spec := "swapFirst", inPlace := ["internal/bytealg.IndexByteString", "internal/bytealg.IndexString", "internal/bytealg.CountString", "internal/abi.NoEscape", "internal/bytealg.MakeNoZero"], unfollowed := true, recurses := true, named := ["internal/bytealg.MaxLen", "unicode/utf8.first", "unicode/utf8.acceptRanges"], apart := false, laid := [("unicode/utf8.acceptRanges", laid_unicode_utf8_acceptRanges), ("unicode/utf8.first", laid_unicode_utf8_first)], narrowed := true }
def SwapFirstUptoSaid : Prop := swapFirstUptoRow.holds Tryd.pinned (OpenSpec.upto swapFirstSpec)

end Rows
end Go.Proofs.YtabjpoapnbkljaaDoor
