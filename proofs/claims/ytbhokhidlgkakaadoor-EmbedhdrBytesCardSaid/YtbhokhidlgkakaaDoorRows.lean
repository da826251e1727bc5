/-
  NARROWER THAN 'FOR EVERY INPUT', by the rows' own cells (each row's printed sentence says how): EmbedhdrNames: laid · EmbedhdrReads: laid · EmbedhdrTurns: laid · EmbedhdrBytes: laid · EmbedhdrMore: laid · EmbedhdrOthers: laid.
  DERIVED. THE GIVEN ROWS OF THIS SEAT. 6 by the template 'for every input the law returns true; each argument reads behind the call as it read before'; 0 by the template 'total and deterministic' (their statements: YtbhokhidlgkakaaDoorTotals.lean).
  GIVEN WITH THE SEED: the statements are not yours to turn. If you find one false, say at which input.
  Laid BY PROGRAM, IN A SANDBOX (cutbox-rows.mjs): the forced cells as the released guide's own fill.sh prints them over the translation 42474f4339f664c1… (all of the seat's roots in one cut). By AI agents, Wed Nov 11 2026. No macro, syntax, notation, axiom, sorry.
-/
import Derived.Test.YtbhokhidlgkakaaDoorChecked
import GoSem.PinnedTables
import GoSem.Claim
import GoSem.ClaimJoined
import GoSem.ClaimMapViews
import Derived.JoinedTies
import Derived.KernelRfl
namespace Go.Proofs.YtbhokhidlgkakaaDoor
/- THE CELL 'sum', in the pinned program and in every row, IS THE sha256 OF THE DUMP (.gsa) THAT YtbhokhidlgkakaaDoorProg.lean LOADS. Nothing in Lean hashes anything: it is a label: what it is worth is what the hold of that sum in a sandbox is worth. -/
noncomputable def Tryd.pinned : Pinned := { name := "ytbhokhidlgkakaadoor", sum := "42474f4339f664c125330763f0812e6cd3114252c36fbddba6bd843cebe51abb", checked := Tryd.checked }
namespace Rows
def none {H : Type} : Left H := { results := [], args := [] }

/- WHAT THE LISTED PACKAGE-LEVEL VARIABLES READ AS WHEN THE CALL BEGINS. Each datum BY PROGRAM (the guide's laid-datum.mjs) off the statement by which the dump's own 'gosem.cut.vars' lays the variable. In a bare row this is a premise. The card (YtbhokhidlgkakaaDoorCards.lean) ties it to the program's text. -/
def laid_unicode_utf8_acceptRanges {H : Type} : DataW H := .agg [.agg [.lit (.int .u8 128), .lit (.int .u8 191)], .agg [.lit (.int .u8 160), .lit (.int .u8 191)], .agg [.lit (.int .u8 128), .lit (.int .u8 159)], .agg [.lit (.int .u8 144), .lit (.int .u8 191)], .agg [.lit (.int .u8 128), .lit (.int .u8 143)], .agg [.lit (.int .u8 0), .lit (.int .u8 0)], .agg [.lit (.int .u8 0), .lit (.int .u8 0)], .agg [.lit (.int .u8 0), .lit (.int .u8 0)], .agg [.lit (.int .u8 0), .lit (.int .u8 0)], .agg [.lit (.int .u8 0), .lit (.int .u8 0)], .agg [.lit (.int .u8 0), .lit (.int .u8 0)], .agg [.lit (.int .u8 0), .lit (.int .u8 0)], .agg [.lit (.int .u8 0), .lit (.int .u8 0)], .agg [.lit (.int .u8 0), .lit (.int .u8 0)], .agg [.lit (.int .u8 0), .lit (.int .u8 0)], .agg [.lit (.int .u8 0), .lit (.int .u8 0)]]
/-- One of Go's own tables, pinned by name: the form's constant. -/
def laid_unicode_utf8_first : DataW Unit := Go.Pinned.utf8First

/-- 'glacislaw09.EmbedhdrNames': WHATEVER THE INPUT: true; the input reads as it did. -/
def embedhdrNamesSpec : ChangeSpec := { name := "embedhdrNames", fn := fun _ => fun
  | [] => { results := [.lit (.bool true)], args := [] }
  | _ => none }
def embedhdrNamesRow : OpenClaim := { program := "ytbhokhidlgkakaadoor", sum := "42474f4339f664c125330763f0812e6cd3114252c36fbddba6bd843cebe51abb", func := "glacis/glacislaw09.EmbedhdrNames", spec := "embedhdrNames", inPlace := ["internal/bytealg.IndexByteString", "internal/bytealg.IndexString", "internal/abi.NoEscape", "internal/bytealg.MakeNoZero"], unfollowed := true, recurses := true, named := ["unicode/utf8.first", "unicode/utf8.acceptRanges", "internal/bytealg.MaxLen"], apart := false, laid := [("unicode/utf8.acceptRanges", laid_unicode_utf8_acceptRanges), ("unicode/utf8.first", laid_unicode_utf8_first)] }
def EmbedhdrNamesSaid : Prop := embedhdrNamesRow.holds Tryd.pinned (OpenSpec.ofChange embedhdrNamesSpec)

/-- ITS FALSE NEIGHBOUR: 'it returns false'. Refute it at one input. -/
def embedhdrNamesWrong : ChangeSpec := { name := "embedhdrNames", fn := fun _ => fun
  | [] => { results := [.lit (.bool false)], args := [] }
  | _ => none }
def EmbedhdrNamesWrongFalsely : Prop := embedhdrNamesRow.holds Tryd.pinned (OpenSpec.ofChange embedhdrNamesWrong)

/-- 'glacislaw09.EmbedhdrReads': WHATEVER THE INPUT: true; the input reads as it did. -/
def embedhdrReadsSpec : ChangeSpec := { name := "embedhdrReads", fn := fun _ => fun
  | [d] => { results := [.lit (.bool true)], args := [d] }
  | _ => none }
def embedhdrReadsRow : OpenClaim := { program := "ytbhokhidlgkakaadoor", sum := "42474f4339f664c125330763f0812e6cd3114252c36fbddba6bd843cebe51abb", func := "glacis/glacislaw09.EmbedhdrReads", spec := "embedhdrReads", inPlace := ["internal/bytealg.IndexByteString", "internal/bytealg.IndexString", "internal/abi.NoEscape", "internal/bytealg.MakeNoZero"], unfollowed := true, recurses := true, named := ["unicode/utf8.first", "unicode/utf8.acceptRanges", "internal/bytealg.MaxLen"], apart := false, laid := [("unicode/utf8.acceptRanges", laid_unicode_utf8_acceptRanges), ("unicode/utf8.first", laid_unicode_utf8_first)] }
def EmbedhdrReadsSaid : Prop := embedhdrReadsRow.holds Tryd.pinned (OpenSpec.ofChange embedhdrReadsSpec)

/-- ITS FALSE NEIGHBOUR: 'it returns false'. Refute it at one input. -/
def embedhdrReadsWrong : ChangeSpec := { name := "embedhdrReads", fn := fun _ => fun
  | [d] => { results := [.lit (.bool false)], args := [d] }
  | _ => none }
def EmbedhdrReadsWrongFalsely : Prop := embedhdrReadsRow.holds Tryd.pinned (OpenSpec.ofChange embedhdrReadsWrong)

/-- 'glacislaw09.EmbedhdrTurns': WHATEVER THE INPUT: true; the input reads as it did. -/
def embedhdrTurnsSpec : ChangeSpec := { name := "embedhdrTurns", fn := fun _ => fun
  | [d] => { results := [.lit (.bool true)], args := [d] }
  | _ => none }
def embedhdrTurnsRow : OpenClaim := { program := "ytbhokhidlgkakaadoor", sum := "42474f4339f664c125330763f0812e6cd3114252c36fbddba6bd843cebe51abb", func := "glacis/glacislaw09.EmbedhdrTurns", spec := "embedhdrTurns", inPlace := ["internal/bytealg.IndexByteString", "internal/bytealg.IndexString", "internal/abi.NoEscape", "internal/bytealg.MakeNoZero"], unfollowed := true, recurses := true, named := ["unicode/utf8.first", "unicode/utf8.acceptRanges", "internal/bytealg.MaxLen"], apart := false, laid := [("unicode/utf8.acceptRanges", laid_unicode_utf8_acceptRanges), ("unicode/utf8.first", laid_unicode_utf8_first)] }
def EmbedhdrTurnsSaid : Prop := embedhdrTurnsRow.holds Tryd.pinned (OpenSpec.ofChange embedhdrTurnsSpec)

/-- ITS FALSE NEIGHBOUR: 'it returns false'. Refute it at one input. -/
def embedhdrTurnsWrong : ChangeSpec := { name := "embedhdrTurns", fn := fun _ => fun
  | [d] => { results := [.lit (.bool false)], args := [d] }
  | _ => none }
def EmbedhdrTurnsWrongFalsely : Prop := embedhdrTurnsRow.holds Tryd.pinned (OpenSpec.ofChange embedhdrTurnsWrong)

/-- 'glacislaw09.EmbedhdrBytes': WHATEVER THE INPUT: true; the input reads as it did. -/
def embedhdrBytesSpec : ChangeSpec := { name := "embedhdrBytes", fn := fun _ => fun
  | [d1, d2] => { results := [.lit (.bool true)], args := [d1, d2] }
  | _ => none }
def embedhdrBytesRow : OpenClaim := { program := "ytbhokhidlgkakaadoor", sum := "42474f4339f664c125330763f0812e6cd3114252c36fbddba6bd843cebe51abb", func := "glacis/glacislaw09.EmbedhdrBytes", spec := "embedhdrBytes", inPlace := ["internal/bytealg.IndexByteString", "internal/bytealg.IndexString", "internal/abi.NoEscape", "internal/bytealg.MakeNoZero"], unfollowed := true, recurses := true, named := ["unicode/utf8.first", "unicode/utf8.acceptRanges", "internal/bytealg.MaxLen"], apart := false, laid := [("unicode/utf8.acceptRanges", laid_unicode_utf8_acceptRanges), ("unicode/utf8.first", laid_unicode_utf8_first)] }
def EmbedhdrBytesSaid : Prop := embedhdrBytesRow.holds Tryd.pinned (OpenSpec.ofChange embedhdrBytesSpec)

/-- ITS FALSE NEIGHBOUR: 'it returns false'. Refute it at one input. -/
def embedhdrBytesWrong : ChangeSpec := { name := "embedhdrBytes", fn := fun _ => fun
  | [d1, d2] => { results := [.lit (.bool false)], args := [d1, d2] }
  | _ => none }
def EmbedhdrBytesWrongFalsely : Prop := embedhdrBytesRow.holds Tryd.pinned (OpenSpec.ofChange embedhdrBytesWrong)

/-- 'glacislaw09.EmbedhdrMore': WHATEVER THE INPUT: true; the input reads as it did. -/
def embedhdrMoreSpec : ChangeSpec := { name := "embedhdrMore", fn := fun _ => fun
  | [d1, d2] => { results := [.lit (.bool true)], args := [d1, d2] }
  | _ => none }
def embedhdrMoreRow : OpenClaim := { program := "ytbhokhidlgkakaadoor", sum := "42474f4339f664c125330763f0812e6cd3114252c36fbddba6bd843cebe51abb", func := "glacis/glacislaw09.EmbedhdrMore", spec := "embedhdrMore", inPlace := ["internal/bytealg.IndexByteString", "internal/bytealg.IndexString", "internal/abi.NoEscape", "internal/bytealg.MakeNoZero"], unfollowed := true, recurses := true, named := ["unicode/utf8.first", "unicode/utf8.acceptRanges", "internal/bytealg.MaxLen"], apart := false, laid := [("unicode/utf8.acceptRanges", laid_unicode_utf8_acceptRanges), ("unicode/utf8.first", laid_unicode_utf8_first)] }
def EmbedhdrMoreSaid : Prop := embedhdrMoreRow.holds Tryd.pinned (OpenSpec.ofChange embedhdrMoreSpec)

/-- ITS FALSE NEIGHBOUR: 'it returns false'. Refute it at one input. -/
def embedhdrMoreWrong : ChangeSpec := { name := "embedhdrMore", fn := fun _ => fun
  | [d1, d2] => { results := [.lit (.bool false)], args := [d1, d2] }
  | _ => none }
def EmbedhdrMoreWrongFalsely : Prop := embedhdrMoreRow.holds Tryd.pinned (OpenSpec.ofChange embedhdrMoreWrong)

/-- 'glacislaw09.EmbedhdrOthers': WHATEVER THE INPUT: true; the input reads as it did. -/
def embedhdrOthersSpec : ChangeSpec := { name := "embedhdrOthers", fn := fun _ => fun
  | [d1, d2] => { results := [.lit (.bool true)], args := [d1, d2] }
  | _ => none }
def embedhdrOthersRow : OpenClaim := { program := "ytbhokhidlgkakaadoor", sum := "42474f4339f664c125330763f0812e6cd3114252c36fbddba6bd843cebe51abb", func := "glacis/glacislaw09.EmbedhdrOthers", spec := "embedhdrOthers", inPlace := ["internal/bytealg.IndexByteString", "internal/bytealg.IndexString", "internal/abi.NoEscape", "internal/bytealg.MakeNoZero"], unfollowed := true, recurses := true, named := ["unicode/utf8.first", "unicode/utf8.acceptRanges", "internal/bytealg.MaxLen"], apart := false, laid := [("unicode/utf8.acceptRanges", laid_unicode_utf8_acceptRanges), ("unicode/utf8.first", laid_unicode_utf8_first)] }
def EmbedhdrOthersSaid : Prop := embedhdrOthersRow.holds Tryd.pinned (OpenSpec.ofChange embedhdrOthersSpec)

/-- ITS FALSE NEIGHBOUR: 'it returns false'. Refute it at one input. -/
def embedhdrOthersWrong : ChangeSpec := { name := "embedhdrOthers", fn := fun _ => fun
  | [d1, d2] => { results := [.lit (.bool false)], args := [d1, d2] }
  | _ => none }
def EmbedhdrOthersWrongFalsely : Prop := embedhdrOthersRow.holds Tryd.pinned (OpenSpec.ofChange embedhdrOthersWrong)

/- THE SECOND FORM. 'bulk': how many values and letters a reading holds, each counted each time it is reached (what is shared counts as often as it is met; a slice's spare places count too). A statement '..UptoSaid' is the law's where the arguments, and the package variables that the reading takes, are together of bulk at most 1048576: NARROWER than '..Said'. Prove '..Said' where nothing that the law and all that it calls make is longer than what came in: it says more and counts as full. Else prove '..UptoSaid'. A law counts once. -/
mutual
def uptoBulk {H : Type} : DataW H → Nat
  | .lit (.string bytes) => bytes.length + 1
  | .lit _ => 1
  | .nil => 1
  | .ptr d => uptoBulk d + 1
  | .slice elems spare => uptoBulkAll elems + uptoBulkAll spare + 1
  | .agg parts => uptoBulkAll parts + 1
  | .iface _ d => uptoBulk d + 1
  | .map entries => uptoBulkEntries entries + 1
  | .held _ => 1
def uptoBulkAll {H : Type} : List (DataW H) → Nat
  | [] => 0
  | d :: r => uptoBulk d + uptoBulkAll r
def uptoBulkEntries {H : Type} : List (Lit × DataW H) → Nat
  | [] => 0
  | x :: r => uptoBulkEntry x + uptoBulkEntries r
def uptoBulkEntry {H : Type} : Lit × DataW H → Nat
  | (.string bytes, d) => bytes.length + uptoBulk d + 1
  | (_, d) => uptoBulk d + 1
 end
def uptoSmall : (H : Type) → List (DataW H) → Bool := fun _ ds => decide (uptoBulkAll ds ≤ 1048576)
def OpenSpec.upto (s : _root_.Go.ChangeSpec) : _root_.Go.OpenSpec := { _root_.Go.OpenSpec.ofChange s with cond := some uptoSmall }

/-- 'glacislaw09.EmbedhdrNames', WHERE WHAT IT READS IS OF BULK AT MOST 1048576: true; the input reads as it did. -/
def embedhdrNamesUptoRow : OpenClaim := { program := "ytbhokhidlgkakaadoor", sum := "42474f4339f664c125330763f0812e6cd3114252c36fbddba6bd843cebe51abb", func := "glacis/glacislaw09.EmbedhdrNames", spec := "embedhdrNames", inPlace := ["internal/bytealg.IndexByteString", "internal/bytealg.IndexString", "internal/abi.NoEscape", "internal/bytealg.MakeNoZero"], unfollowed := true, recurses := true, named := ["unicode/utf8.first", "unicode/utf8.acceptRanges", "internal/bytealg.MaxLen"], apart := false, laid := [("unicode/utf8.acceptRanges", laid_unicode_utf8_acceptRanges), ("unicode/utf8.first", laid_unicode_utf8_first)], narrowed := true }
def EmbedhdrNamesUptoSaid : Prop := embedhdrNamesUptoRow.holds Tryd.pinned (OpenSpec.upto embedhdrNamesSpec)

/-- 'glacislaw09.EmbedhdrReads', WHERE WHAT IT READS IS OF BULK AT MOST 1048576: true; the input reads as it did. -/
def embedhdrReadsUptoRow : OpenClaim := { program := "ytbhokhidlgkakaadoor", sum := "42474f4339f664c125330763f0812e6cd3114252c36fbddba6bd843cebe51abb", func := "glacis/glacislaw09.EmbedhdrReads", spec := "embedhdrReads", inPlace := ["internal/bytealg.IndexByteString", "internal/bytealg.IndexString", "internal/abi.NoEscape", "internal/bytealg.MakeNoZero"], unfollowed := true, recurses := true, named := ["unicode/utf8.first", "unicode/utf8.acceptRanges", "internal/bytealg.MaxLen"], apart := false, laid := [("unicode/utf8.acceptRanges", laid_unicode_utf8_acceptRanges), ("unicode/utf8.first", laid_unicode_utf8_first)], narrowed := true }
def EmbedhdrReadsUptoSaid : Prop := embedhdrReadsUptoRow.holds Tryd.pinned (OpenSpec.upto embedhdrReadsSpec)

/-- 'glacislaw09.EmbedhdrTurns', WHERE WHAT IT READS IS OF BULK AT MOST 1048576: true; the input reads as it did. -/
def embedhdrTurnsUptoRow : OpenClaim := { program := "ytbhokhidlgkakaadoor", sum := "42474f4339f664c125330763f0812e6cd3114252c36fbddba6bd843cebe51abb", func := "glacis/glacislaw09.EmbedhdrTurns", spec := "embedhdrTurns", inPlace := ["internal/bytealg.IndexByteString", "internal/bytealg.IndexString", "internal/abi.NoEscape", "internal/bytealg.MakeNoZero"], unfollowed := true, recurses := true, named := ["unicode/utf8.first", "unicode/utf8.acceptRanges", "internal/bytealg.MaxLen"], apart := false, laid := [("unicode/utf8.acceptRanges", laid_unicode_utf8_acceptRanges), ("unicode/utf8.first", laid_unicode_utf8_first)], narrowed := true }
def EmbedhdrTurnsUptoSaid : Prop := embedhdrTurnsUptoRow.holds Tryd.pinned (OpenSpec.upto embedhdrTurnsSpec)

/-- 'glacislaw09.EmbedhdrBytes', WHERE WHAT IT READS IS OF BULK AT MOST 1048576: true; the input reads as it did. -/
def embedhdrBytesUptoRow : OpenClaim := { program := "ytbhokhidlgkakaadoor", sum := "42474f4339f664c125330763f0812e6cd3114252c36fbddba6bd843cebe51abb", func := "glacis/glacislaw09.EmbedhdrBytes", spec := "embedhdrBytes", inPlace := ["internal/bytealg.IndexByteString", "internal/bytealg.IndexString", "internal/abi.NoEscape", "internal/bytealg.MakeNoZero"], unfollowed := true, recurses := true, named := ["unicode/utf8.first", "unicode/utf8.acceptRanges", "internal/bytealg.MaxLen"], apart := false, laid := [("unicode/utf8.acceptRanges", laid_unicode_utf8_acceptRanges), ("unicode/utf8.first", laid_unicode_utf8_first)], narrowed := true }
def EmbedhdrBytesUptoSaid : Prop := embedhdrBytesUptoRow.holds Tryd.pinned (OpenSpec.upto embedhdrBytesSpec)

/-- 'glacislaw09.EmbedhdrMore', WHERE WHAT IT READS IS OF BULK AT MOST 1048576: true; the input reads as it did. -/
def embedhdrMoreUptoRow : OpenClaim := { program := "ytbhokhidlgkakaadoor", sum := "42474f4339f664c125330763f0812e6cd3114252c36fbddba6bd843cebe51abb", func := "glacis/glacislaw09.EmbedhdrMore", spec := "embedhdrMore", inPlace := ["internal/bytealg.IndexByteString", "internal/bytealg.IndexString", "internal/abi.NoEscape", "internal/bytealg.MakeNoZero"], unfollowed := true, recurses := true, named := ["unicode/utf8.first", "unicode/utf8.acceptRanges", "internal/bytealg.MaxLen"], apart := false, laid := [("unicode/utf8.acceptRanges", laid_unicode_utf8_acceptRanges), ("unicode/utf8.first", laid_unicode_utf8_first)], narrowed := true }
def EmbedhdrMoreUptoSaid : Prop := embedhdrMoreUptoRow.holds Tryd.pinned (OpenSpec.upto embedhdrMoreSpec)

/-- 'glacislaw09.EmbedhdrOthers', WHERE WHAT IT READS IS OF BULK AT MOST 1048576: true; the input reads as it did. -/
def embedhdrOthersUptoRow : OpenClaim := { program := "ytbhokhidlgkakaadoor", sum := "42474f4339f664c125330763f0812e6cd3114252c36fbddba6bd843cebe51abb", func := "glacis/glacislaw09.EmbedhdrOthers", spec := "embedhdrOthers", inPlace := ["internal/bytealg.IndexByteString", "internal/bytealg.IndexString", "internal/abi.NoEscape", "internal/bytealg.MakeNoZero"], unfollowed := true, recurses := true, named := ["unicode/utf8.first", "unicode/utf8.acceptRanges", "internal/bytealg.MaxLen"], apart := false, laid := [("unicode/utf8.acceptRanges", laid_unicode_utf8_acceptRanges), ("unicode/utf8.first", laid_unicode_utf8_first)], narrowed := true }
def EmbedhdrOthersUptoSaid : Prop := embedhdrOthersUptoRow.holds Tryd.pinned (OpenSpec.upto embedhdrOthersSpec)

end Rows
end Go.Proofs.YtbhokhidlgkakaaDoor
