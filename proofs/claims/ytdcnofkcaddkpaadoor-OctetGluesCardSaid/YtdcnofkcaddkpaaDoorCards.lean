/-
  DERIVED. GIVEN WITH THE SEED: THE CARDS: each row of YtdcnofkcaddkpaaDoorRows.lean that lists a variable, with what it lists TIED to the program's text (the seventh form; the later family's looks); each row that meets fmt, with fmt's text TOLD by the authors' own Lean function (tested against real Go, not proved from fmt's source: count such statements apart). THE CARD IS WHAT COUNTS. Prove the row's statement (the work); the ties are given (YtdcnofkcaddkpaaDoorTie.lean); close each card by the builder's one call (the guide's Derived/Test/ToyasCard.lean, 'card_holds'). Laid BY PROGRAM, IN A SANDBOX (cutbox-door.mjs). By AI agents, Wed Nov 11 2026. No macro, syntax, notation, axiom, sorry.
-/
import Derived.Test.YtdcnofkcaddkpaaDoorRows
import GoSem.ClaimSeven
namespace Go.Proofs.YtdcnofkcaddkpaaDoor
namespace Rows

/-- THE TIED CARD OF 'glacislaw01.OctetLowers'. -/
def octetLowersCard : Claim7 := { stood := { row := octetLowersRow, standIns := [], harness := (true, "f888e081f23c8211962843321411a2a21d5f34bccb7620671dd3ec1b0e5e7e96"), looks := false }, kinds := [], alts := [], laidByText := true, laidKinds := [.data, .pinned], laidTests := true, laidLooks := .later }
def OctetLowersCardSaid : Prop := Claim7.holds Tryd.pinned (.plain (OpenSpec.ofChange octetLowersSpec)) octetLowersCard

/-- THE TIED CARD OF 'glacislaw01.OctetParts'. -/
def octetPartsCard : Claim7 := { stood := { row := octetPartsRow, standIns := [], harness := (true, "f888e081f23c8211962843321411a2a21d5f34bccb7620671dd3ec1b0e5e7e96"), looks := false }, kinds := [], alts := [], laidByText := true, laidKinds := [.data, .pinned], laidTests := true, laidLooks := .later }
def OctetPartsCardSaid : Prop := Claim7.holds Tryd.pinned (.plain (OpenSpec.ofChange octetPartsSpec)) octetPartsCard

/-- THE TIED CARD OF 'glacislaw01.OctetTokens'. -/
def octetTokensCard : Claim7 := { stood := { row := octetTokensRow, standIns := [], harness := (true, "f888e081f23c8211962843321411a2a21d5f34bccb7620671dd3ec1b0e5e7e96"), looks := false }, kinds := [], alts := [], laidByText := true, laidKinds := [.data, .pinned], laidTests := true, laidLooks := .later }
def OctetTokensCardSaid : Prop := Claim7.holds Tryd.pinned (.plain (OpenSpec.ofChange octetTokensSpec)) octetTokensCard

/-- THE TIED CARD OF 'glacislaw01.OctetJoins'. -/
def octetJoinsCard : Claim7 := { stood := { row := octetJoinsRow, standIns := [], harness := (true, "f888e081f23c8211962843321411a2a21d5f34bccb7620671dd3ec1b0e5e7e96"), looks := false }, kinds := [], alts := [], laidByText := true, laidKinds := [.data, .pinned], laidTests := true, laidLooks := .later }
def OctetJoinsCardSaid : Prop := Claim7.holds Tryd.pinned (.plain (OpenSpec.ofChange octetJoinsSpec)) octetJoinsCard

/-- THE TIED CARD OF 'glacislaw01.OctetTwice'. -/
def octetTwiceCard : Claim7 := { stood := { row := octetTwiceRow, standIns := [], harness := (true, "f888e081f23c8211962843321411a2a21d5f34bccb7620671dd3ec1b0e5e7e96"), looks := false }, kinds := [], alts := [], laidByText := true, laidKinds := [.data, .pinned], laidTests := true, laidLooks := .later }
def OctetTwiceCardSaid : Prop := Claim7.holds Tryd.pinned (.plain (OpenSpec.ofChange octetTwiceSpec)) octetTwiceCard

/-- THE TIED CARD OF 'glacislaw01.OctetWords'. -/
def octetWordsCard : Claim7 := { stood := { row := octetWordsRow, standIns := [], harness := (true, "f888e081f23c8211962843321411a2a21d5f34bccb7620671dd3ec1b0e5e7e96"), looks := false }, kinds := [], alts := [], laidByText := true, laidKinds := [.data, .pinned], laidTests := true, laidLooks := .later }
def OctetWordsCardSaid : Prop := Claim7.holds Tryd.pinned (.plain (OpenSpec.ofChange octetWordsSpec)) octetWordsCard

/-- THE TIED CARD OF 'glacislaw01.OctetDigits'. -/
def octetDigitsCard : Claim7 := { stood := { row := octetDigitsRow, standIns := [], harness := (true, "f888e081f23c8211962843321411a2a21d5f34bccb7620671dd3ec1b0e5e7e96"), looks := false }, kinds := [], alts := [], laidByText := true, laidKinds := [.data, .pinned], laidTests := true, laidLooks := .later }
def OctetDigitsCardSaid : Prop := Claim7.holds Tryd.pinned (.plain (OpenSpec.ofChange octetDigitsSpec)) octetDigitsCard

/-- THE TIED CARD OF 'glacislaw01.OctetGlues'. -/
def octetGluesCard : Claim7 := { stood := { row := octetGluesRow, standIns := [], harness := (true, "f888e081f23c8211962843321411a2a21d5f34bccb7620671dd3ec1b0e5e7e96"), looks := false }, kinds := [], alts := [], laidByText := true, laidKinds := [.data, .pinned], laidTests := true, laidLooks := .later }
def OctetGluesCardSaid : Prop := Claim7.holds Tryd.pinned (.plain (OpenSpec.ofChange octetGluesSpec)) octetGluesCard

/-- THE SECOND FORM's CARD OF 'glacislaw01.OctetLowers'. -/
def octetLowersUptoCard : Claim7 := { stood := { row := octetLowersUptoRow, standIns := [], harness := (true, "f888e081f23c8211962843321411a2a21d5f34bccb7620671dd3ec1b0e5e7e96"), looks := false }, kinds := [], alts := [], laidByText := true, laidKinds := [.data, .pinned], laidTests := true, laidLooks := .later }
def OctetLowersUptoCardSaid : Prop := Claim7.holds Tryd.pinned (.plain (OpenSpec.upto octetLowersSpec)) octetLowersUptoCard

/-- THE SECOND FORM's CARD OF 'glacislaw01.OctetParts'. -/
def octetPartsUptoCard : Claim7 := { stood := { row := octetPartsUptoRow, standIns := [], harness := (true, "f888e081f23c8211962843321411a2a21d5f34bccb7620671dd3ec1b0e5e7e96"), looks := false }, kinds := [], alts := [], laidByText := true, laidKinds := [.data, .pinned], laidTests := true, laidLooks := .later }
def OctetPartsUptoCardSaid : Prop := Claim7.holds Tryd.pinned (.plain (OpenSpec.upto octetPartsSpec)) octetPartsUptoCard

/-- THE SECOND FORM's CARD OF 'glacislaw01.OctetTokens'. -/
def octetTokensUptoCard : Claim7 := { stood := { row := octetTokensUptoRow, standIns := [], harness := (true, "f888e081f23c8211962843321411a2a21d5f34bccb7620671dd3ec1b0e5e7e96"), looks := false }, kinds := [], alts := [], laidByText := true, laidKinds := [.data, .pinned], laidTests := true, laidLooks := .later }
def OctetTokensUptoCardSaid : Prop := Claim7.holds Tryd.pinned (.plain (OpenSpec.upto octetTokensSpec)) octetTokensUptoCard

/-- THE SECOND FORM's CARD OF 'glacislaw01.OctetJoins'. -/
def octetJoinsUptoCard : Claim7 := { stood := { row := octetJoinsUptoRow, standIns := [], harness := (true, "f888e081f23c8211962843321411a2a21d5f34bccb7620671dd3ec1b0e5e7e96"), looks := false }, kinds := [], alts := [], laidByText := true, laidKinds := [.data, .pinned], laidTests := true, laidLooks := .later }
def OctetJoinsUptoCardSaid : Prop := Claim7.holds Tryd.pinned (.plain (OpenSpec.upto octetJoinsSpec)) octetJoinsUptoCard

/-- THE SECOND FORM's CARD OF 'glacislaw01.OctetTwice'. -/
def octetTwiceUptoCard : Claim7 := { stood := { row := octetTwiceUptoRow, standIns := [], harness := (true, "f888e081f23c8211962843321411a2a21d5f34bccb7620671dd3ec1b0e5e7e96"), looks := false }, kinds := [], alts := [], laidByText := true, laidKinds := [.data, .pinned], laidTests := true, laidLooks := .later }
def OctetTwiceUptoCardSaid : Prop := Claim7.holds Tryd.pinned (.plain (OpenSpec.upto octetTwiceSpec)) octetTwiceUptoCard

/-- THE SECOND FORM's CARD OF 'glacislaw01.OctetWords'. -/
def octetWordsUptoCard : Claim7 := { stood := { row := octetWordsUptoRow, standIns := [], harness := (true, "f888e081f23c8211962843321411a2a21d5f34bccb7620671dd3ec1b0e5e7e96"), looks := false }, kinds := [], alts := [], laidByText := true, laidKinds := [.data, .pinned], laidTests := true, laidLooks := .later }
def OctetWordsUptoCardSaid : Prop := Claim7.holds Tryd.pinned (.plain (OpenSpec.upto octetWordsSpec)) octetWordsUptoCard

/-- THE SECOND FORM's CARD OF 'glacislaw01.OctetDigits'. -/
def octetDigitsUptoCard : Claim7 := { stood := { row := octetDigitsUptoRow, standIns := [], harness := (true, "f888e081f23c8211962843321411a2a21d5f34bccb7620671dd3ec1b0e5e7e96"), looks := false }, kinds := [], alts := [], laidByText := true, laidKinds := [.data, .pinned], laidTests := true, laidLooks := .later }
def OctetDigitsUptoCardSaid : Prop := Claim7.holds Tryd.pinned (.plain (OpenSpec.upto octetDigitsSpec)) octetDigitsUptoCard

/-- THE SECOND FORM's CARD OF 'glacislaw01.OctetGlues'. -/
def octetGluesUptoCard : Claim7 := { stood := { row := octetGluesUptoRow, standIns := [], harness := (true, "f888e081f23c8211962843321411a2a21d5f34bccb7620671dd3ec1b0e5e7e96"), looks := false }, kinds := [], alts := [], laidByText := true, laidKinds := [.data, .pinned], laidTests := true, laidLooks := .later }
def OctetGluesUptoCardSaid : Prop := Claim7.holds Tryd.pinned (.plain (OpenSpec.upto octetGluesSpec)) octetGluesUptoCard
end Rows
end Go.Proofs.YtdcnofkcaddkpaaDoor
