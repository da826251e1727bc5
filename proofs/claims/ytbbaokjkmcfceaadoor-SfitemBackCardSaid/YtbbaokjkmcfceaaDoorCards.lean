/-
  DERIVED. GIVEN WITH THE SEED: THE CARDS: each row of YtbbaokjkmcfceaaDoorRows.lean that lists a variable, with what it lists TIED to the program's text (the seventh form; the later family's looks); each row that meets fmt, with fmt's text TOLD by the authors' own Lean function (tested against real Go, not proved from fmt's source: count such statements apart). THE CARD IS WHAT COUNTS. Prove the row's statement (the work); the ties are given (YtbbaokjkmcfceaaDoorTie.lean); close each card by the builder's one call (the guide's Derived/Test/ToyasCard.lean, 'card_holds'). Laid BY PROGRAM, IN A SANDBOX (cutbox-door.mjs). By AI agents, Wed Nov 11 2026. No macro, syntax, notation, axiom, sorry.
-/
import Derived.Test.YtbbaokjkmcfceaaDoorRows
import GoSem.ClaimSeven
namespace Go.Proofs.YtbbaokjkmcfceaaDoor
namespace Rows

/-- THE TIED CARD OF 'glacislaw05.SfitemNames'. -/
def sfitemNamesCard : Claim7 := { stood := { row := sfitemNamesRow, standIns := [], harness := (true, "10405ec500b7856d1db63455174f417948f7aef43647e5d1965930ed32bff9a1"), looks := true }, kinds := [], alts := [], laidByText := true, laidKinds := [.data, .data, .data, .data, .sentinel, .sentinel, .pinned], laidTests := true, laidLooks := .later }
def SfitemNamesCardSaid : Prop := Claim7.holds Tryd.pinned (.plain (OpenSpec.ofChange sfitemNamesSpec)) sfitemNamesCard

/-- THE TIED CARD OF 'glacislaw05.SfitemBack'. -/
def sfitemBackCard : Claim7 := { stood := { row := sfitemBackRow, standIns := [], harness := (true, "10405ec500b7856d1db63455174f417948f7aef43647e5d1965930ed32bff9a1"), looks := true }, kinds := [], alts := [], laidByText := true, laidKinds := [.data, .data, .data, .data, .sentinel, .sentinel, .pinned], laidTests := true, laidLooks := .later }
def SfitemBackCardSaid : Prop := Claim7.holds Tryd.pinned (.plain (OpenSpec.ofChange sfitemBackSpec)) sfitemBackCard

/-- THE TIED CARD OF 'glacislaw05.SfitemRest'. -/
def sfitemRestCard : Claim7 := { stood := { row := sfitemRestRow, standIns := [], harness := (true, "10405ec500b7856d1db63455174f417948f7aef43647e5d1965930ed32bff9a1"), looks := true }, kinds := [], alts := [], laidByText := true, laidKinds := [.data, .data, .data, .data, .sentinel, .sentinel, .pinned], laidTests := true, laidLooks := .later }
def SfitemRestCardSaid : Prop := Claim7.holds Tryd.pinned (.plain (OpenSpec.ofChange sfitemRestSpec)) sfitemRestCard

/-- THE TIED CARD OF 'glacislaw05.SfitemLast'. -/
def sfitemLastCard : Claim7 := { stood := { row := sfitemLastRow, standIns := [], harness := (true, "10405ec500b7856d1db63455174f417948f7aef43647e5d1965930ed32bff9a1"), looks := true }, kinds := [], alts := [], laidByText := true, laidKinds := [.data, .data, .data, .data, .sentinel, .sentinel, .pinned], laidTests := true, laidLooks := .later }
def SfitemLastCardSaid : Prop := Claim7.holds Tryd.pinned (.plain (OpenSpec.ofChange sfitemLastSpec)) sfitemLastCard

/-- THE TIED CARD OF 'glacislaw05.SfitemNumbers'. -/
def sfitemNumbersCard : Claim7 := { stood := { row := sfitemNumbersRow, standIns := [], harness := (true, "10405ec500b7856d1db63455174f417948f7aef43647e5d1965930ed32bff9a1"), looks := true }, kinds := [], alts := [], laidByText := true, laidKinds := [.data, .data, .data, .data, .sentinel, .sentinel, .pinned], laidTests := true, laidLooks := .later }
def SfitemNumbersCardSaid : Prop := Claim7.holds Tryd.pinned (.plain (OpenSpec.ofChange sfitemNumbersSpec)) sfitemNumbersCard

/-- THE TIED CARD OF 'glacislaw05.SfitemTexts'. -/
def sfitemTextsCard : Claim7 := { stood := { row := sfitemTextsRow, standIns := [], harness := (true, "10405ec500b7856d1db63455174f417948f7aef43647e5d1965930ed32bff9a1"), looks := true }, kinds := [], alts := [], laidByText := true, laidKinds := [.data, .data, .data, .data, .sentinel, .sentinel, .pinned], laidTests := true, laidLooks := .later }
def SfitemTextsCardSaid : Prop := Claim7.holds Tryd.pinned (.plain (OpenSpec.ofChange sfitemTextsSpec)) sfitemTextsCard

/-- THE SECOND FORM's CARD OF 'glacislaw05.SfitemNames'. -/
def sfitemNamesUptoCard : Claim7 := { stood := { row := sfitemNamesUptoRow, standIns := [], harness := (true, "10405ec500b7856d1db63455174f417948f7aef43647e5d1965930ed32bff9a1"), looks := true }, kinds := [], alts := [], laidByText := true, laidKinds := [.data, .data, .data, .data, .sentinel, .sentinel, .pinned], laidTests := true, laidLooks := .later }
def SfitemNamesUptoCardSaid : Prop := Claim7.holds Tryd.pinned (.plain (OpenSpec.upto sfitemNamesSpec)) sfitemNamesUptoCard

/-- THE SECOND FORM's CARD OF 'glacislaw05.SfitemBack'. -/
def sfitemBackUptoCard : Claim7 := { stood := { row := sfitemBackUptoRow, standIns := [], harness := (true, "10405ec500b7856d1db63455174f417948f7aef43647e5d1965930ed32bff9a1"), looks := true }, kinds := [], alts := [], laidByText := true, laidKinds := [.data, .data, .data, .data, .sentinel, .sentinel, .pinned], laidTests := true, laidLooks := .later }
def SfitemBackUptoCardSaid : Prop := Claim7.holds Tryd.pinned (.plain (OpenSpec.upto sfitemBackSpec)) sfitemBackUptoCard

/-- THE SECOND FORM's CARD OF 'glacislaw05.SfitemRest'. -/
def sfitemRestUptoCard : Claim7 := { stood := { row := sfitemRestUptoRow, standIns := [], harness := (true, "10405ec500b7856d1db63455174f417948f7aef43647e5d1965930ed32bff9a1"), looks := true }, kinds := [], alts := [], laidByText := true, laidKinds := [.data, .data, .data, .data, .sentinel, .sentinel, .pinned], laidTests := true, laidLooks := .later }
def SfitemRestUptoCardSaid : Prop := Claim7.holds Tryd.pinned (.plain (OpenSpec.upto sfitemRestSpec)) sfitemRestUptoCard

/-- THE SECOND FORM's CARD OF 'glacislaw05.SfitemLast'. -/
def sfitemLastUptoCard : Claim7 := { stood := { row := sfitemLastUptoRow, standIns := [], harness := (true, "10405ec500b7856d1db63455174f417948f7aef43647e5d1965930ed32bff9a1"), looks := true }, kinds := [], alts := [], laidByText := true, laidKinds := [.data, .data, .data, .data, .sentinel, .sentinel, .pinned], laidTests := true, laidLooks := .later }
def SfitemLastUptoCardSaid : Prop := Claim7.holds Tryd.pinned (.plain (OpenSpec.upto sfitemLastSpec)) sfitemLastUptoCard

/-- THE SECOND FORM's CARD OF 'glacislaw05.SfitemNumbers'. -/
def sfitemNumbersUptoCard : Claim7 := { stood := { row := sfitemNumbersUptoRow, standIns := [], harness := (true, "10405ec500b7856d1db63455174f417948f7aef43647e5d1965930ed32bff9a1"), looks := true }, kinds := [], alts := [], laidByText := true, laidKinds := [.data, .data, .data, .data, .sentinel, .sentinel, .pinned], laidTests := true, laidLooks := .later }
def SfitemNumbersUptoCardSaid : Prop := Claim7.holds Tryd.pinned (.plain (OpenSpec.upto sfitemNumbersSpec)) sfitemNumbersUptoCard

/-- THE SECOND FORM's CARD OF 'glacislaw05.SfitemTexts'. -/
def sfitemTextsUptoCard : Claim7 := { stood := { row := sfitemTextsUptoRow, standIns := [], harness := (true, "10405ec500b7856d1db63455174f417948f7aef43647e5d1965930ed32bff9a1"), looks := true }, kinds := [], alts := [], laidByText := true, laidKinds := [.data, .data, .data, .data, .sentinel, .sentinel, .pinned], laidTests := true, laidLooks := .later }
def SfitemTextsUptoCardSaid : Prop := Claim7.holds Tryd.pinned (.plain (OpenSpec.upto sfitemTextsSpec)) sfitemTextsUptoCard
end Rows
end Go.Proofs.YtbbaokjkmcfceaaDoor
