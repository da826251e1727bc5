/-
  DERIVED. GIVEN WITH THE SEED: THE CARDS: each row of YtciigmlibnpeeaaDoorRows.lean that lists a variable, with what it lists TIED to the program's text (the seventh form; the later family's looks); each row that meets fmt, with fmt's text TOLD by the authors' own Lean function (tested against real Go, not proved from fmt's source: count such statements apart). THE CARD IS WHAT COUNTS. Prove the row's statement (the work); the ties are given (YtciigmlibnpeeaaDoorTie.lean); close each card by the builder's one call (the guide's Derived/Test/ToyasCard.lean, 'card_holds'). Laid BY PROGRAM, IN A SANDBOX (cutbox-door.mjs). By AI agents, Wed Nov 11 2026. No macro, syntax, notation, axiom, sorry.
-/
import Derived.Test.YtciigmlibnpeeaaDoorRows
import GoSem.ClaimSeven
namespace Go.Proofs.YtciigmlibnpeeaaDoor
namespace Rows

/-- THE TIED CARD OF 'glacislaw08.CoopNames'. -/
def coopNamesCard : Claim7 := { stood := { row := coopNamesRow, standIns := [], harness := (true, "e619a7501ab8f9a01bf98efa044278ecaed08774985e753b6d468ff25e11354d"), looks := true }, kinds := [], alts := [], laidByText := true, laidKinds := [.data, .data, .data, .data, .sentinel, .sentinel, .pinned], laidTests := true, laidLooks := .later }
def CoopNamesCardSaid : Prop := Claim7.holds Tryd.pinned (.plain (OpenSpec.ofChange coopNamesSpec)) coopNamesCard

/-- THE TIED CARD OF 'glacislaw08.CoopReports'. -/
def coopReportsCard : Claim7 := { stood := { row := coopReportsRow, standIns := [], harness := (true, "e619a7501ab8f9a01bf98efa044278ecaed08774985e753b6d468ff25e11354d"), looks := true }, kinds := [], alts := [], laidByText := true, laidKinds := [.data, .data, .data, .data, .sentinel, .sentinel, .pinned], laidTests := true, laidLooks := .later }
def CoopReportsCardSaid : Prop := Claim7.holds Tryd.pinned (.plain (OpenSpec.ofChange coopReportsSpec)) coopReportsCard

/-- THE TIED CARD OF 'glacislaw08.CoopPlusOnly'. -/
def coopPlusOnlyCard : Claim7 := { stood := { row := coopPlusOnlyRow, standIns := [], harness := (true, "e619a7501ab8f9a01bf98efa044278ecaed08774985e753b6d468ff25e11354d"), looks := true }, kinds := [], alts := [], laidByText := true, laidKinds := [.data, .data, .data, .data, .sentinel, .sentinel, .pinned], laidTests := true, laidLooks := .later }
def CoopPlusOnlyCardSaid : Prop := Claim7.holds Tryd.pinned (.plain (OpenSpec.ofChange coopPlusOnlySpec)) coopPlusOnlyCard

/-- THE TIED CARD OF 'glacislaw08.CoopSecure'. -/
def coopSecureCard : Claim7 := { stood := { row := coopSecureRow, standIns := [], harness := (true, "e619a7501ab8f9a01bf98efa044278ecaed08774985e753b6d468ff25e11354d"), looks := true }, kinds := [], alts := [], laidByText := true, laidKinds := [.data, .data, .data, .data, .sentinel, .sentinel, .pinned], laidTests := true, laidLooks := .later }
def CoopSecureCardSaid : Prop := Claim7.holds Tryd.pinned (.plain (OpenSpec.ofChange coopSecureSpec)) coopSecureCard

/-- THE SECOND FORM's CARD OF 'glacislaw08.CoopNames'. -/
def coopNamesUptoCard : Claim7 := { stood := { row := coopNamesUptoRow, standIns := [], harness := (true, "e619a7501ab8f9a01bf98efa044278ecaed08774985e753b6d468ff25e11354d"), looks := true }, kinds := [], alts := [], laidByText := true, laidKinds := [.data, .data, .data, .data, .sentinel, .sentinel, .pinned], laidTests := true, laidLooks := .later }
def CoopNamesUptoCardSaid : Prop := Claim7.holds Tryd.pinned (.plain (OpenSpec.upto coopNamesSpec)) coopNamesUptoCard

/-- THE SECOND FORM's CARD OF 'glacislaw08.CoopReports'. -/
def coopReportsUptoCard : Claim7 := { stood := { row := coopReportsUptoRow, standIns := [], harness := (true, "e619a7501ab8f9a01bf98efa044278ecaed08774985e753b6d468ff25e11354d"), looks := true }, kinds := [], alts := [], laidByText := true, laidKinds := [.data, .data, .data, .data, .sentinel, .sentinel, .pinned], laidTests := true, laidLooks := .later }
def CoopReportsUptoCardSaid : Prop := Claim7.holds Tryd.pinned (.plain (OpenSpec.upto coopReportsSpec)) coopReportsUptoCard

/-- THE SECOND FORM's CARD OF 'glacislaw08.CoopPlusOnly'. -/
def coopPlusOnlyUptoCard : Claim7 := { stood := { row := coopPlusOnlyUptoRow, standIns := [], harness := (true, "e619a7501ab8f9a01bf98efa044278ecaed08774985e753b6d468ff25e11354d"), looks := true }, kinds := [], alts := [], laidByText := true, laidKinds := [.data, .data, .data, .data, .sentinel, .sentinel, .pinned], laidTests := true, laidLooks := .later }
def CoopPlusOnlyUptoCardSaid : Prop := Claim7.holds Tryd.pinned (.plain (OpenSpec.upto coopPlusOnlySpec)) coopPlusOnlyUptoCard

/-- THE SECOND FORM's CARD OF 'glacislaw08.CoopSecure'. -/
def coopSecureUptoCard : Claim7 := { stood := { row := coopSecureUptoRow, standIns := [], harness := (true, "e619a7501ab8f9a01bf98efa044278ecaed08774985e753b6d468ff25e11354d"), looks := true }, kinds := [], alts := [], laidByText := true, laidKinds := [.data, .data, .data, .data, .sentinel, .sentinel, .pinned], laidTests := true, laidLooks := .later }
def CoopSecureUptoCardSaid : Prop := Claim7.holds Tryd.pinned (.plain (OpenSpec.upto coopSecureSpec)) coopSecureUptoCard
end Rows
end Go.Proofs.YtciigmlibnpeeaaDoor
