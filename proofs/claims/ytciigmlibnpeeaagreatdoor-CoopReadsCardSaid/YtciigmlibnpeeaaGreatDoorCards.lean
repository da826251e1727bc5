/-
  DERIVED. GIVEN WITH THE SEED: THE CARDS: each row of YtciigmlibnpeeaaGreatDoorRows.lean that lists a variable, with what it lists TIED to the program's text (the seventh form; the later family's looks); each row that meets fmt, with fmt's text TOLD by the authors' own Lean function (tested against real Go, not proved from fmt's source: count such statements apart). THE CARD IS WHAT COUNTS. Prove the row's statement (the work); the ties are given (YtciigmlibnpeeaaGreatDoorTie.lean); close each card by the builder's one call (the guide's Derived/Test/ToyasCard.lean, 'card_holds'). Laid BY PROGRAM, IN A SANDBOX (cutbox-door.mjs). By AI agents, Wed Nov 11 2026. No macro, syntax, notation, axiom, sorry.
-/
import Derived.Test.YtciigmlibnpeeaaGreatDoorRows
import GoSem.ClaimSeven
namespace Go.Proofs.YtciigmlibnpeeaaGreatDoor
namespace Rows

/-- THE TIED CARD OF 'glacislaw08.CoopReads'. -/
def coopReadsCard : Claim7 := { stood := { row := coopReadsRow, standIns := [], harness := (true, "ad53b4cd4df768c864d03fca5823604dfb74fce4a7461bbc5c76fb952e4ffe48"), looks := true }, kinds := [], alts := [], laidByText := true, laidKinds := [.data, .data, .data, .data, .sentinel, .sentinel, .pinned], laidTests := true, laidLooks := .later }
def CoopReadsCardSaid : Prop := Claim7.holds Tryz.pinned (.plain (OpenSpec.ofChange coopReadsSpec)) coopReadsCard

/-- THE TIED CARD OF 'glacislaw08.CoopWords'. -/
def coopWordsCard : Claim7 := { stood := { row := coopWordsRow, standIns := [], harness := (true, "ad53b4cd4df768c864d03fca5823604dfb74fce4a7461bbc5c76fb952e4ffe48"), looks := true }, kinds := [], alts := [], laidByText := true, laidKinds := [.data, .data, .data, .data, .sentinel, .sentinel, .pinned], laidTests := true, laidLooks := .later }
def CoopWordsCardSaid : Prop := Claim7.holds Tryz.pinned (.plain (OpenSpec.ofChange coopWordsSpec)) coopWordsCard

/-- THE SECOND FORM's CARD OF 'glacislaw08.CoopReads'. -/
def coopReadsUptoCard : Claim7 := { stood := { row := coopReadsUptoRow, standIns := [], harness := (true, "ad53b4cd4df768c864d03fca5823604dfb74fce4a7461bbc5c76fb952e4ffe48"), looks := true }, kinds := [], alts := [], laidByText := true, laidKinds := [.data, .data, .data, .data, .sentinel, .sentinel, .pinned], laidTests := true, laidLooks := .later }
def CoopReadsUptoCardSaid : Prop := Claim7.holds Tryz.pinned (.plain (OpenSpec.upto coopReadsSpec)) coopReadsUptoCard

/-- THE SECOND FORM's CARD OF 'glacislaw08.CoopWords'. -/
def coopWordsUptoCard : Claim7 := { stood := { row := coopWordsUptoRow, standIns := [], harness := (true, "ad53b4cd4df768c864d03fca5823604dfb74fce4a7461bbc5c76fb952e4ffe48"), looks := true }, kinds := [], alts := [], laidByText := true, laidKinds := [.data, .data, .data, .data, .sentinel, .sentinel, .pinned], laidTests := true, laidLooks := .later }
def CoopWordsUptoCardSaid : Prop := Claim7.holds Tryz.pinned (.plain (OpenSpec.upto coopWordsSpec)) coopWordsUptoCard
end Rows
end Go.Proofs.YtciigmlibnpeeaaGreatDoor
