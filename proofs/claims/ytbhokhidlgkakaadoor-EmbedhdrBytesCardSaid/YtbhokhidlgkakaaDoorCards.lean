/-
  DERIVED. GIVEN WITH THE SEED: THE CARDS: each row of YtbhokhidlgkakaaDoorRows.lean that lists a variable, with what it lists TIED to the program's text (the seventh form; the later family's looks); each row that meets fmt, with fmt's text TOLD by the authors' own Lean function (tested against real Go, not proved from fmt's source: count such statements apart). THE CARD IS WHAT COUNTS. Prove the row's statement (the work); the ties are given (YtbhokhidlgkakaaDoorTie.lean); close each card by the builder's one call (the guide's Derived/Test/ToyasCard.lean, 'card_holds'). Laid BY PROGRAM, IN A SANDBOX (cutbox-door.mjs). By AI agents, Wed Nov 11 2026. No macro, syntax, notation, axiom, sorry.
-/
import Derived.Test.YtbhokhidlgkakaaDoorRows
import GoSem.ClaimSeven
namespace Go.Proofs.YtbhokhidlgkakaaDoor
namespace Rows

/-- THE TIED CARD OF 'glacislaw09.EmbedhdrNames'. -/
def embedhdrNamesCard : Claim7 := { stood := { row := embedhdrNamesRow, standIns := [], harness := (true, "0c421363457eb8ff5b33d2c404d39b41c708b154941adbdfdc57bc68e05aaac8"), looks := false }, kinds := [], alts := [], laidByText := true, laidKinds := [.data, .pinned], laidTests := true, laidLooks := .later }
def EmbedhdrNamesCardSaid : Prop := Claim7.holds Tryd.pinned (.plain (OpenSpec.ofChange embedhdrNamesSpec)) embedhdrNamesCard

/-- THE TIED CARD OF 'glacislaw09.EmbedhdrReads'. -/
def embedhdrReadsCard : Claim7 := { stood := { row := embedhdrReadsRow, standIns := [], harness := (true, "0c421363457eb8ff5b33d2c404d39b41c708b154941adbdfdc57bc68e05aaac8"), looks := false }, kinds := [], alts := [], laidByText := true, laidKinds := [.data, .pinned], laidTests := true, laidLooks := .later }
def EmbedhdrReadsCardSaid : Prop := Claim7.holds Tryd.pinned (.plain (OpenSpec.ofChange embedhdrReadsSpec)) embedhdrReadsCard

/-- THE TIED CARD OF 'glacislaw09.EmbedhdrTurns'. -/
def embedhdrTurnsCard : Claim7 := { stood := { row := embedhdrTurnsRow, standIns := [], harness := (true, "0c421363457eb8ff5b33d2c404d39b41c708b154941adbdfdc57bc68e05aaac8"), looks := false }, kinds := [], alts := [], laidByText := true, laidKinds := [.data, .pinned], laidTests := true, laidLooks := .later }
def EmbedhdrTurnsCardSaid : Prop := Claim7.holds Tryd.pinned (.plain (OpenSpec.ofChange embedhdrTurnsSpec)) embedhdrTurnsCard

/-- THE TIED CARD OF 'glacislaw09.EmbedhdrBytes'. -/
def embedhdrBytesCard : Claim7 := { stood := { row := embedhdrBytesRow, standIns := [], harness := (true, "0c421363457eb8ff5b33d2c404d39b41c708b154941adbdfdc57bc68e05aaac8"), looks := false }, kinds := [], alts := [], laidByText := true, laidKinds := [.data, .pinned], laidTests := true, laidLooks := .later }
def EmbedhdrBytesCardSaid : Prop := Claim7.holds Tryd.pinned (.plain (OpenSpec.ofChange embedhdrBytesSpec)) embedhdrBytesCard

/-- THE TIED CARD OF 'glacislaw09.EmbedhdrMore'. -/
def embedhdrMoreCard : Claim7 := { stood := { row := embedhdrMoreRow, standIns := [], harness := (true, "0c421363457eb8ff5b33d2c404d39b41c708b154941adbdfdc57bc68e05aaac8"), looks := false }, kinds := [], alts := [], laidByText := true, laidKinds := [.data, .pinned], laidTests := true, laidLooks := .later }
def EmbedhdrMoreCardSaid : Prop := Claim7.holds Tryd.pinned (.plain (OpenSpec.ofChange embedhdrMoreSpec)) embedhdrMoreCard

/-- THE TIED CARD OF 'glacislaw09.EmbedhdrOthers'. -/
def embedhdrOthersCard : Claim7 := { stood := { row := embedhdrOthersRow, standIns := [], harness := (true, "0c421363457eb8ff5b33d2c404d39b41c708b154941adbdfdc57bc68e05aaac8"), looks := false }, kinds := [], alts := [], laidByText := true, laidKinds := [.data, .pinned], laidTests := true, laidLooks := .later }
def EmbedhdrOthersCardSaid : Prop := Claim7.holds Tryd.pinned (.plain (OpenSpec.ofChange embedhdrOthersSpec)) embedhdrOthersCard

/-- THE SECOND FORM's CARD OF 'glacislaw09.EmbedhdrNames'. -/
def embedhdrNamesUptoCard : Claim7 := { stood := { row := embedhdrNamesUptoRow, standIns := [], harness := (true, "0c421363457eb8ff5b33d2c404d39b41c708b154941adbdfdc57bc68e05aaac8"), looks := false }, kinds := [], alts := [], laidByText := true, laidKinds := [.data, .pinned], laidTests := true, laidLooks := .later }
def EmbedhdrNamesUptoCardSaid : Prop := Claim7.holds Tryd.pinned (.plain (OpenSpec.upto embedhdrNamesSpec)) embedhdrNamesUptoCard

/-- THE SECOND FORM's CARD OF 'glacislaw09.EmbedhdrReads'. -/
def embedhdrReadsUptoCard : Claim7 := { stood := { row := embedhdrReadsUptoRow, standIns := [], harness := (true, "0c421363457eb8ff5b33d2c404d39b41c708b154941adbdfdc57bc68e05aaac8"), looks := false }, kinds := [], alts := [], laidByText := true, laidKinds := [.data, .pinned], laidTests := true, laidLooks := .later }
def EmbedhdrReadsUptoCardSaid : Prop := Claim7.holds Tryd.pinned (.plain (OpenSpec.upto embedhdrReadsSpec)) embedhdrReadsUptoCard

/-- THE SECOND FORM's CARD OF 'glacislaw09.EmbedhdrTurns'. -/
def embedhdrTurnsUptoCard : Claim7 := { stood := { row := embedhdrTurnsUptoRow, standIns := [], harness := (true, "0c421363457eb8ff5b33d2c404d39b41c708b154941adbdfdc57bc68e05aaac8"), looks := false }, kinds := [], alts := [], laidByText := true, laidKinds := [.data, .pinned], laidTests := true, laidLooks := .later }
def EmbedhdrTurnsUptoCardSaid : Prop := Claim7.holds Tryd.pinned (.plain (OpenSpec.upto embedhdrTurnsSpec)) embedhdrTurnsUptoCard

/-- THE SECOND FORM's CARD OF 'glacislaw09.EmbedhdrBytes'. -/
def embedhdrBytesUptoCard : Claim7 := { stood := { row := embedhdrBytesUptoRow, standIns := [], harness := (true, "0c421363457eb8ff5b33d2c404d39b41c708b154941adbdfdc57bc68e05aaac8"), looks := false }, kinds := [], alts := [], laidByText := true, laidKinds := [.data, .pinned], laidTests := true, laidLooks := .later }
def EmbedhdrBytesUptoCardSaid : Prop := Claim7.holds Tryd.pinned (.plain (OpenSpec.upto embedhdrBytesSpec)) embedhdrBytesUptoCard

/-- THE SECOND FORM's CARD OF 'glacislaw09.EmbedhdrMore'. -/
def embedhdrMoreUptoCard : Claim7 := { stood := { row := embedhdrMoreUptoRow, standIns := [], harness := (true, "0c421363457eb8ff5b33d2c404d39b41c708b154941adbdfdc57bc68e05aaac8"), looks := false }, kinds := [], alts := [], laidByText := true, laidKinds := [.data, .pinned], laidTests := true, laidLooks := .later }
def EmbedhdrMoreUptoCardSaid : Prop := Claim7.holds Tryd.pinned (.plain (OpenSpec.upto embedhdrMoreSpec)) embedhdrMoreUptoCard

/-- THE SECOND FORM's CARD OF 'glacislaw09.EmbedhdrOthers'. -/
def embedhdrOthersUptoCard : Claim7 := { stood := { row := embedhdrOthersUptoRow, standIns := [], harness := (true, "0c421363457eb8ff5b33d2c404d39b41c708b154941adbdfdc57bc68e05aaac8"), looks := false }, kinds := [], alts := [], laidByText := true, laidKinds := [.data, .pinned], laidTests := true, laidLooks := .later }
def EmbedhdrOthersUptoCardSaid : Prop := Claim7.holds Tryd.pinned (.plain (OpenSpec.upto embedhdrOthersSpec)) embedhdrOthersUptoCard
end Rows
end Go.Proofs.YtbhokhidlgkakaaDoor
