/-
  NARROWER THAN 'FOR EVERY INPUT', by the rows' own cells (each row's printed sentence says how): OctetLowers: laid · OctetParts: laid · OctetTokens: laid · OctetJoins: laid · OctetTwice: laid · OctetWords: laid · OctetDigits: laid · OctetGlues: laid.
  DERIVED. THE GIVEN ROWS OF THIS SEAT. 8 by the template 'for every input the law returns true; each argument reads behind the call as it read before'; 0 by the template 'total and deterministic' (their statements: YtdcnofkcaddkpaaDoorTotals.lean).
  GIVEN WITH THE SEED: the statements are not yours to turn. If you find one false, say at which input.
  Laid BY PROGRAM, IN A SANDBOX (cutbox-rows.mjs): the forced cells as the released guide's own fill.sh prints them over the translation 7f66d337fe22fbf1… (all of the seat's roots in one cut). By AI agents, Wed Nov 11 2026. No macro, syntax, notation, axiom, sorry.
-/
import Derived.Test.YtdcnofkcaddkpaaDoorChecked
import GoSem.PinnedTables
import GoSem.Claim
import GoSem.ClaimJoined
import GoSem.ClaimMapViews
import Derived.JoinedTies
import Derived.KernelRfl
namespace Go.Proofs.YtdcnofkcaddkpaaDoor
/- THE CELL 'sum', in the pinned program and in every row, IS THE sha256 OF THE DUMP (.gsa) THAT YtdcnofkcaddkpaaDoorProg.lean LOADS. Nothing in Lean hashes anything: it is a label: what it is worth is what the hold of that sum in a sandbox is worth. -/
noncomputable def Tryd.pinned : Pinned := { name := "ytdcnofkcaddkpaadoor", sum := "7f66d337fe22fbf1b41bd5a803df797a9ff154074bcd9682a6e14e4dffa2cfd1", checked := Tryd.checked }
namespace Rows
def none {H : Type} : Left H := { results := [], args := [] }

/- WHAT THE LISTED PACKAGE-LEVEL VARIABLES READ AS WHEN THE CALL BEGINS. Each datum BY PROGRAM (the guide's laid-datum.mjs) off the statement by which the dump's own 'gosem.cut.vars' lays the variable. In a bare row this is a premise. The card (YtdcnofkcaddkpaaDoorCards.lean) ties it to the program's text. -/
def laid_unicode_utf8_acceptRanges {H : Type} : DataW H := .agg [.agg [.lit (.int .u8 128), .lit (.int .u8 191)], .agg [.lit (.int .u8 160), .lit (.int .u8 191)], .agg [.lit (.int .u8 128), .lit (.int .u8 159)], .agg [.lit (.int .u8 144), .lit (.int .u8 191)], .agg [.lit (.int .u8 128), .lit (.int .u8 143)], .agg [.lit (.int .u8 0), .lit (.int .u8 0)], .agg [.lit (.int .u8 0), .lit (.int .u8 0)], .agg [.lit (.int .u8 0), .lit (.int .u8 0)], .agg [.lit (.int .u8 0), .lit (.int .u8 0)], .agg [.lit (.int .u8 0), .lit (.int .u8 0)], .agg [.lit (.int .u8 0), .lit (.int .u8 0)], .agg [.lit (.int .u8 0), .lit (.int .u8 0)], .agg [.lit (.int .u8 0), .lit (.int .u8 0)], .agg [.lit (.int .u8 0), .lit (.int .u8 0)], .agg [.lit (.int .u8 0), .lit (.int .u8 0)], .agg [.lit (.int .u8 0), .lit (.int .u8 0)]]
/-- One of Go's own tables, pinned by name: the form's constant. -/
def laid_unicode_utf8_first : DataW Unit := Go.Pinned.utf8First

/-- 'glacislaw01.OctetLowers': WHATEVER THE INPUT: true; the input reads as it did. -/
def octetLowersSpec : ChangeSpec := { name := "octetLowers", fn := fun _ => fun
  | [d1, d2] => { results := [.lit (.bool true)], args := [d1, d2] }
  | _ => none }
def octetLowersRow : OpenClaim := { program := "ytdcnofkcaddkpaadoor", sum := "7f66d337fe22fbf1b41bd5a803df797a9ff154074bcd9682a6e14e4dffa2cfd1", func := "glacis/glacislaw01.OctetLowers", spec := "octetLowers", inPlace := ["internal/bytealg.IndexByteString", "internal/bytealg.IndexString"], unfollowed := true, recurses := true, named := ["unicode/utf8.first", "unicode/utf8.acceptRanges", "internal/bytealg.MaxLen"], apart := false, laid := [("unicode/utf8.acceptRanges", laid_unicode_utf8_acceptRanges), ("unicode/utf8.first", laid_unicode_utf8_first)] }
def OctetLowersSaid : Prop := octetLowersRow.holds Tryd.pinned (OpenSpec.ofChange octetLowersSpec)

/-- ITS FALSE NEIGHBOUR: 'it returns false'. Refute it at one input. -/
def octetLowersWrong : ChangeSpec := { name := "octetLowers", fn := fun _ => fun
  | [d1, d2] => { results := [.lit (.bool false)], args := [d1, d2] }
  | _ => none }
def OctetLowersWrongFalsely : Prop := octetLowersRow.holds Tryd.pinned (OpenSpec.ofChange octetLowersWrong)

/-- 'glacislaw01.OctetParts': WHATEVER THE INPUT: true; the input reads as it did. -/
def octetPartsSpec : ChangeSpec := { name := "octetParts", fn := fun _ => fun
  | [d1, d2] => { results := [.lit (.bool true)], args := [d1, d2] }
  | _ => none }
def octetPartsRow : OpenClaim := { program := "ytdcnofkcaddkpaadoor", sum := "7f66d337fe22fbf1b41bd5a803df797a9ff154074bcd9682a6e14e4dffa2cfd1", func := "glacis/glacislaw01.OctetParts", spec := "octetParts", inPlace := ["internal/bytealg.IndexByteString", "internal/bytealg.IndexString"], unfollowed := true, recurses := true, named := ["unicode/utf8.first", "unicode/utf8.acceptRanges", "internal/bytealg.MaxLen"], apart := false, laid := [("unicode/utf8.acceptRanges", laid_unicode_utf8_acceptRanges), ("unicode/utf8.first", laid_unicode_utf8_first)] }
def OctetPartsSaid : Prop := octetPartsRow.holds Tryd.pinned (OpenSpec.ofChange octetPartsSpec)

/-- ITS FALSE NEIGHBOUR: 'it returns false'. Refute it at one input. -/
def octetPartsWrong : ChangeSpec := { name := "octetParts", fn := fun _ => fun
  | [d1, d2] => { results := [.lit (.bool false)], args := [d1, d2] }
  | _ => none }
def OctetPartsWrongFalsely : Prop := octetPartsRow.holds Tryd.pinned (OpenSpec.ofChange octetPartsWrong)

/-- 'glacislaw01.OctetTokens': WHATEVER THE INPUT: true; the input reads as it did. -/
def octetTokensSpec : ChangeSpec := { name := "octetTokens", fn := fun _ => fun
  | [d1, d2] => { results := [.lit (.bool true)], args := [d1, d2] }
  | _ => none }
def octetTokensRow : OpenClaim := { program := "ytdcnofkcaddkpaadoor", sum := "7f66d337fe22fbf1b41bd5a803df797a9ff154074bcd9682a6e14e4dffa2cfd1", func := "glacis/glacislaw01.OctetTokens", spec := "octetTokens", inPlace := ["internal/bytealg.IndexByteString", "internal/bytealg.IndexString"], unfollowed := true, recurses := true, named := ["unicode/utf8.first", "unicode/utf8.acceptRanges", "internal/bytealg.MaxLen"], apart := false, laid := [("unicode/utf8.acceptRanges", laid_unicode_utf8_acceptRanges), ("unicode/utf8.first", laid_unicode_utf8_first)] }
def OctetTokensSaid : Prop := octetTokensRow.holds Tryd.pinned (OpenSpec.ofChange octetTokensSpec)

/-- ITS FALSE NEIGHBOUR: 'it returns false'. Refute it at one input. -/
def octetTokensWrong : ChangeSpec := { name := "octetTokens", fn := fun _ => fun
  | [d1, d2] => { results := [.lit (.bool false)], args := [d1, d2] }
  | _ => none }
def OctetTokensWrongFalsely : Prop := octetTokensRow.holds Tryd.pinned (OpenSpec.ofChange octetTokensWrong)

/-- 'glacislaw01.OctetJoins': WHATEVER THE INPUT: true; the input reads as it did. -/
def octetJoinsSpec : ChangeSpec := { name := "octetJoins", fn := fun _ => fun
  | [d1, d2] => { results := [.lit (.bool true)], args := [d1, d2] }
  | _ => none }
def octetJoinsRow : OpenClaim := { program := "ytdcnofkcaddkpaadoor", sum := "7f66d337fe22fbf1b41bd5a803df797a9ff154074bcd9682a6e14e4dffa2cfd1", func := "glacis/glacislaw01.OctetJoins", spec := "octetJoins", inPlace := ["internal/bytealg.IndexByteString", "internal/bytealg.IndexString"], unfollowed := true, recurses := true, named := ["unicode/utf8.first", "unicode/utf8.acceptRanges", "internal/bytealg.MaxLen"], apart := false, laid := [("unicode/utf8.acceptRanges", laid_unicode_utf8_acceptRanges), ("unicode/utf8.first", laid_unicode_utf8_first)] }
def OctetJoinsSaid : Prop := octetJoinsRow.holds Tryd.pinned (OpenSpec.ofChange octetJoinsSpec)

/-- ITS FALSE NEIGHBOUR: 'it returns false'. Refute it at one input. -/
def octetJoinsWrong : ChangeSpec := { name := "octetJoins", fn := fun _ => fun
  | [d1, d2] => { results := [.lit (.bool false)], args := [d1, d2] }
  | _ => none }
def OctetJoinsWrongFalsely : Prop := octetJoinsRow.holds Tryd.pinned (OpenSpec.ofChange octetJoinsWrong)

/-- 'glacislaw01.OctetTwice': WHATEVER THE INPUT: true; the input reads as it did. -/
def octetTwiceSpec : ChangeSpec := { name := "octetTwice", fn := fun _ => fun
  | [d1, d2] => { results := [.lit (.bool true)], args := [d1, d2] }
  | _ => none }
def octetTwiceRow : OpenClaim := { program := "ytdcnofkcaddkpaadoor", sum := "7f66d337fe22fbf1b41bd5a803df797a9ff154074bcd9682a6e14e4dffa2cfd1", func := "glacis/glacislaw01.OctetTwice", spec := "octetTwice", inPlace := ["internal/bytealg.IndexByteString", "internal/bytealg.IndexString"], unfollowed := true, recurses := true, named := ["unicode/utf8.first", "unicode/utf8.acceptRanges", "internal/bytealg.MaxLen"], apart := false, laid := [("unicode/utf8.acceptRanges", laid_unicode_utf8_acceptRanges), ("unicode/utf8.first", laid_unicode_utf8_first)] }
def OctetTwiceSaid : Prop := octetTwiceRow.holds Tryd.pinned (OpenSpec.ofChange octetTwiceSpec)

/-- ITS FALSE NEIGHBOUR: 'it returns false'. Refute it at one input. -/
def octetTwiceWrong : ChangeSpec := { name := "octetTwice", fn := fun _ => fun
  | [d1, d2] => { results := [.lit (.bool false)], args := [d1, d2] }
  | _ => none }
def OctetTwiceWrongFalsely : Prop := octetTwiceRow.holds Tryd.pinned (OpenSpec.ofChange octetTwiceWrong)

/-- 'glacislaw01.OctetWords': WHATEVER THE INPUT: true; the input reads as it did. -/
def octetWordsSpec : ChangeSpec := { name := "octetWords", fn := fun _ => fun
  | [d] => { results := [.lit (.bool true)], args := [d] }
  | _ => none }
def octetWordsRow : OpenClaim := { program := "ytdcnofkcaddkpaadoor", sum := "7f66d337fe22fbf1b41bd5a803df797a9ff154074bcd9682a6e14e4dffa2cfd1", func := "glacis/glacislaw01.OctetWords", spec := "octetWords", inPlace := ["internal/bytealg.IndexByteString", "internal/bytealg.IndexString"], unfollowed := true, recurses := true, named := ["unicode/utf8.first", "unicode/utf8.acceptRanges", "internal/bytealg.MaxLen"], apart := false, laid := [("unicode/utf8.acceptRanges", laid_unicode_utf8_acceptRanges), ("unicode/utf8.first", laid_unicode_utf8_first)] }
def OctetWordsSaid : Prop := octetWordsRow.holds Tryd.pinned (OpenSpec.ofChange octetWordsSpec)

/-- ITS FALSE NEIGHBOUR: 'it returns false'. Refute it at one input. -/
def octetWordsWrong : ChangeSpec := { name := "octetWords", fn := fun _ => fun
  | [d] => { results := [.lit (.bool false)], args := [d] }
  | _ => none }
def OctetWordsWrongFalsely : Prop := octetWordsRow.holds Tryd.pinned (OpenSpec.ofChange octetWordsWrong)

/-- 'glacislaw01.OctetDigits': WHATEVER THE INPUT: true; the input reads as it did. -/
def octetDigitsSpec : ChangeSpec := { name := "octetDigits", fn := fun _ => fun
  | [d1, d2] => { results := [.lit (.bool true)], args := [d1, d2] }
  | _ => none }
def octetDigitsRow : OpenClaim := { program := "ytdcnofkcaddkpaadoor", sum := "7f66d337fe22fbf1b41bd5a803df797a9ff154074bcd9682a6e14e4dffa2cfd1", func := "glacis/glacislaw01.OctetDigits", spec := "octetDigits", inPlace := ["internal/bytealg.IndexByteString", "internal/bytealg.IndexString"], unfollowed := true, recurses := true, named := ["unicode/utf8.first", "unicode/utf8.acceptRanges", "internal/bytealg.MaxLen"], apart := false, laid := [("unicode/utf8.acceptRanges", laid_unicode_utf8_acceptRanges), ("unicode/utf8.first", laid_unicode_utf8_first)] }
def OctetDigitsSaid : Prop := octetDigitsRow.holds Tryd.pinned (OpenSpec.ofChange octetDigitsSpec)

/-- ITS FALSE NEIGHBOUR: 'it returns false'. Refute it at one input. -/
def octetDigitsWrong : ChangeSpec := { name := "octetDigits", fn := fun _ => fun
  | [d1, d2] => { results := [.lit (.bool false)], args := [d1, d2] }
  | _ => none }
def OctetDigitsWrongFalsely : Prop := octetDigitsRow.holds Tryd.pinned (OpenSpec.ofChange octetDigitsWrong)

/-- 'glacislaw01.OctetGlues': WHATEVER THE INPUT: true; the input reads as it did. -/
def octetGluesSpec : ChangeSpec := { name := "octetGlues", fn := fun _ => fun
  | [d1, d2, d3] => { results := [.lit (.bool true)], args := [d1, d2, d3] }
  | _ => none }
def octetGluesRow : OpenClaim := { program := "ytdcnofkcaddkpaadoor", sum := "7f66d337fe22fbf1b41bd5a803df797a9ff154074bcd9682a6e14e4dffa2cfd1", func := "glacis/glacislaw01.OctetGlues", spec := "octetGlues", inPlace := ["internal/bytealg.IndexByteString", "internal/bytealg.IndexString"], unfollowed := true, recurses := true, named := ["unicode/utf8.first", "unicode/utf8.acceptRanges", "internal/bytealg.MaxLen"], apart := false, laid := [("unicode/utf8.acceptRanges", laid_unicode_utf8_acceptRanges), ("unicode/utf8.first", laid_unicode_utf8_first)] }
def OctetGluesSaid : Prop := octetGluesRow.holds Tryd.pinned (OpenSpec.ofChange octetGluesSpec)

/-- ITS FALSE NEIGHBOUR: 'it returns false'. Refute it at one input. -/
def octetGluesWrong : ChangeSpec := { name := "octetGlues", fn := fun _ => fun
  | [d1, d2, d3] => { results := [.lit (.bool false)], args := [d1, d2, d3] }
  | _ => none }
def OctetGluesWrongFalsely : Prop := octetGluesRow.holds Tryd.pinned (OpenSpec.ofChange octetGluesWrong)

/- THE SECOND FORM. 'bulk': how many values and letters a reading holds, each counted each time it is reached (what is shared counts as often as it is met; a slice's spare places count too). A statement '..UptoSaid' is the law's where the arguments, and the package variables that the reading takes, are together of bulk at most 1048576: NARROWER than '..Said'. Prove '..Said' where nothing that the law and all that it calls make is longer than what came in: it says more and counts as full. Else prove '..UptoSaid'. A law counts once. -/
mutual
def uptoBulk {H : Type} : DataW H → Nat
  | .lit (.string bytes) => bytes.length + 1
  | .lit _ => 1
  | .nil => 1
  | .ptr d => uptoBulk d + 1
  | .slice elems spare => uptoBulkAll elems + uptoBulkAll spare + 1
  | .agg parts => uptoBulkAll parts + 1
  | .iface _ d => uptoBulk d + 1
  | .map entries => uptoBulkEntries entries + 1
  | .held _ => 1
def uptoBulkAll {H : Type} : List (DataW H) → Nat
  | [] => 0
  | d :: r => uptoBulk d + uptoBulkAll r
def uptoBulkEntries {H : Type} : List (Lit × DataW H) → Nat
  | [] => 0
  | x :: r => uptoBulkEntry x + uptoBulkEntries r
def uptoBulkEntry {H : Type} : Lit × DataW H → Nat
  | (.string bytes, d) => bytes.length + uptoBulk d + 1
  | (_, d) => uptoBulk d + 1
 end
def uptoSmall : (H : Type) → List (DataW H) → Bool := fun _ ds => decide (uptoBulkAll ds ≤ 1048576)
def OpenSpec.upto (s : _root_.Go.ChangeSpec) : _root_.Go.OpenSpec := { _root_.Go.OpenSpec.ofChange s with cond := some uptoSmall }

/-- 'glacislaw01.OctetLowers', WHERE WHAT IT READS IS OF BULK AT MOST 1048576: true; the input reads as it did. -/
def octetLowersUptoRow : OpenClaim := { program := "ytdcnofkcaddkpaadoor", sum := "7f66d337fe22fbf1b41bd5a803df797a9ff154074bcd9682a6e14e4dffa2cfd1", func := "glacis/glacislaw01.OctetLowers", spec := "octetLowers", inPlace := ["internal/bytealg.IndexByteString", "internal/bytealg.IndexString"], unfollowed := true, recurses := true, named := ["unicode/utf8.first", "unicode/utf8.acceptRanges", "internal/bytealg.MaxLen"], apart := false, laid := [("unicode/utf8.acceptRanges", laid_unicode_utf8_acceptRanges), ("unicode/utf8.first", laid_unicode_utf8_first)], narrowed := true }
def OctetLowersUptoSaid : Prop := octetLowersUptoRow.holds Tryd.pinned (OpenSpec.upto octetLowersSpec)

/-- 'glacislaw01.OctetParts', WHERE WHAT IT READS IS OF BULK AT MOST 1048576: true; the input reads as it did. -/
def octetPartsUptoRow : OpenClaim := { program := "ytdcnofkcaddkpaadoor", sum := "7f66d337fe22fbf1b41bd5a803df797a9ff154074bcd9682a6e14e4dffa2cfd1", func := "glacis/glacislaw01.OctetParts", spec := "octetParts", inPlace := ["internal/bytealg.IndexByteString", "internal/bytealg.IndexString"], unfollowed := true, recurses := true, named := ["unicode/utf8.first", "unicode/utf8.acceptRanges", "internal/bytealg.MaxLen"], apart := false, laid := [("unicode/utf8.acceptRanges", laid_unicode_utf8_acceptRanges), ("unicode/utf8.first", laid_unicode_utf8_first)], narrowed := true }
def OctetPartsUptoSaid : Prop := octetPartsUptoRow.holds Tryd.pinned (OpenSpec.upto octetPartsSpec)

/-- 'glacislaw01.OctetTokens', WHERE WHAT IT READS IS OF BULK AT MOST 1048576: true; the input reads as it did. -/
def octetTokensUptoRow : OpenClaim := { program := "ytdcnofkcaddkpaadoor", sum := "7f66d337fe22fbf1b41bd5a803df797a9ff154074bcd9682a6e14e4dffa2cfd1", func := "glacis/glacislaw01.OctetTokens", spec := "octetTokens", inPlace := ["internal/bytealg.IndexByteString", "internal/bytealg.IndexString"], unfollowed := true, recurses := true, named := ["unicode/utf8.first", "unicode/utf8.acceptRanges", "internal/bytealg.MaxLen"], apart := false, laid := [("unicode/utf8.acceptRanges", laid_unicode_utf8_acceptRanges), ("unicode/utf8.first", laid_unicode_utf8_first)], narrowed := true }
def OctetTokensUptoSaid : Prop := octetTokensUptoRow.holds Tryd.pinned (OpenSpec.upto octetTokensSpec)

/-- 'glacislaw01.OctetJoins', WHERE WHAT IT READS IS OF BULK AT MOST 1048576: true; the input reads as it did. -/
def octetJoinsUptoRow : OpenClaim := { program := "ytdcnofkcaddkpaadoor", sum := "7f66d337fe22fbf1b41bd5a803df797a9ff154074bcd9682a6e14e4dffa2cfd1", func := "glacis/glacislaw01.OctetJoins", spec := "octetJoins", inPlace := ["internal/bytealg.IndexByteString", "internal/bytealg.IndexString"], unfollowed := true, recurses := true, named := ["unicode/utf8.first", "unicode/utf8.acceptRanges", "internal/bytealg.MaxLen"], apart := false, laid := [("unicode/utf8.acceptRanges", laid_unicode_utf8_acceptRanges), ("unicode/utf8.first", laid_unicode_utf8_first)], narrowed := true }
def OctetJoinsUptoSaid : Prop := octetJoinsUptoRow.holds Tryd.pinned (OpenSpec.upto octetJoinsSpec)

/-- 'glacislaw01.OctetTwice', WHERE WHAT IT READS IS OF BULK AT MOST 1048576: true; the input reads as it did. -/
def octetTwiceUptoRow : OpenClaim := { program := "ytdcnofkcaddkpaadoor", sum := "7f66d337fe22fbf1b41bd5a803df797a9ff154074bcd9682a6e14e4dffa2cfd1", func := "glacis/glacislaw01.OctetTwice", spec := "octetTwice", inPlace := ["internal/bytealg.IndexByteString", "internal/bytealg.IndexString"], unfollowed := true, recurses := true, named := ["unicode/utf8.first", "unicode/utf8.acceptRanges", "internal/bytealg.MaxLen"], apart := false, laid := [("unicode/utf8.acceptRanges", laid_unicode_utf8_acceptRanges), ("unicode/utf8.first", laid_unicode_utf8_first)], narrowed := true }
def OctetTwiceUptoSaid : Prop := octetTwiceUptoRow.holds Tryd.pinned (OpenSpec.upto octetTwiceSpec)

/-- 'glacislaw01.OctetWords', WHERE WHAT IT READS IS OF BULK AT MOST 1048576: true; the input reads as it did. -/
def octetWordsUptoRow : OpenClaim := { program := "ytdcnofkcaddkpaadoor", sum := "7f66d337fe22fbf1b41bd5a803df797a9ff154074bcd9682a6e14e4dffa2cfd1", func := "glacis/glacislaw01.OctetWords", spec := "octetWords", inPlace := ["internal/bytealg.IndexByteString", "internal/bytealg.IndexString"], unfollowed := true, recurses := true, named := ["unicode/utf8.first", "unicode/utf8.acceptRanges", "internal/bytealg.MaxLen"], apart := false, laid := [("unicode/utf8.acceptRanges", laid_unicode_utf8_acceptRanges), ("unicode/utf8.first", laid_unicode_utf8_first)], narrowed := true }
def OctetWordsUptoSaid : Prop := octetWordsUptoRow.holds Tryd.pinned (OpenSpec.upto octetWordsSpec)

/-- 'glacislaw01.OctetDigits', WHERE WHAT IT READS IS OF BULK AT MOST 1048576: true; the input reads as it did. -/
def octetDigitsUptoRow : OpenClaim := { program := "ytdcnofkcaddkpaadoor", sum := "7f66d337fe22fbf1b41bd5a803df797a9ff154074bcd9682a6e14e4dffa2cfd1", func := "glacis/glacislaw01.OctetDigits", spec := "octetDigits", inPlace := ["internal/bytealg.IndexByteString", "internal/bytealg.IndexString"], unfollowed := true, recurses := true, named := ["unicode/utf8.first", "unicode/utf8.acceptRanges", "internal/bytealg.MaxLen"], apart := false, laid := [("unicode/utf8.acceptRanges", laid_unicode_utf8_acceptRanges), ("unicode/utf8.first", laid_unicode_utf8_first)], narrowed := true }
def OctetDigitsUptoSaid : Prop := octetDigitsUptoRow.holds Tryd.pinned (OpenSpec.upto octetDigitsSpec)

/-- 'glacislaw01.OctetGlues', WHERE WHAT IT READS IS OF BULK AT MOST 1048576: true; the input reads as it did. -/
def octetGluesUptoRow : OpenClaim := { program := "ytdcnofkcaddkpaadoor", sum := "7f66d337fe22fbf1b41bd5a803df797a9ff154074bcd9682a6e14e4dffa2cfd1", func := "glacis/glacislaw01.OctetGlues", spec := "octetGlues", inPlace := ["internal/bytealg.IndexByteString", "internal/bytealg.IndexString"], unfollowed := true, recurses := true, named := ["unicode/utf8.first", "unicode/utf8.acceptRanges", "internal/bytealg.MaxLen"], apart := false, laid := [("unicode/utf8.acceptRanges", laid_unicode_utf8_acceptRanges), ("unicode/utf8.first", laid_unicode_utf8_first)], narrowed := true }
def OctetGluesUptoSaid : Prop := octetGluesUptoRow.holds Tryd.pinned (OpenSpec.upto octetGluesSpec)

end Rows
end Go.Proofs.YtdcnofkcaddkpaaDoor
