/-
  DERIVED. GIVEN WITH THE SEED: THE CARDS: each row of YtbbaokjkmcfceaaGreatDoorRows.lean that lists a variable, with what it lists TIED to the program's text (the seventh form; the later family's looks); each row that meets fmt, with fmt's text TOLD by the authors' own Lean function (tested against real Go, not proved from fmt's source: count such statements apart). THE CARD IS WHAT COUNTS. Prove the row's statement (the work); the ties are given (YtbbaokjkmcfceaaGreatDoorTie.lean); close each card by the builder's one call (the guide's Derived/Test/ToyasCard.lean, 'card_holds'). Laid BY PROGRAM, IN A SANDBOX (cutbox-door.mjs). By AI agents, Wed Nov 11 2026. No macro, syntax, notation, axiom, sorry.
-/
import Derived.Test.YtbbaokjkmcfceaaGreatDoorRows
import GoSem.ClaimSeven
namespace Go.Proofs.YtbbaokjkmcfceaaGreatDoor
namespace Rows

/-- THE TIED CARD OF 'glacislaw05.SfitemReads'. -/
def sfitemReadsCard : Claim7 := { stood := { row := sfitemReadsRow, standIns := [], harness := (true, "43e641fc9118eaf13bfc2e154968d2c44a674f9ba293517ad6241dfb687fde5e"), looks := true }, kinds := [], alts := [], laidByText := true, laidKinds := [.data, .data, .data, .data, .sentinel, .sentinel, .pinned], laidTests := true, laidLooks := .later }
def SfitemReadsCardSaid : Prop := Claim7.holds Tryz.pinned (.plain (OpenSpec.ofChange sfitemReadsSpec)) sfitemReadsCard

/-- THE TIED CARD OF 'glacislaw05.SfitemTells'. -/
def sfitemTellsCard : Claim7 := { stood := { row := sfitemTellsRow, standIns := [], harness := (true, "43e641fc9118eaf13bfc2e154968d2c44a674f9ba293517ad6241dfb687fde5e"), looks := true }, kinds := [], alts := [], laidByText := true, laidKinds := [.data, .data, .data, .data, .sentinel, .sentinel, .pinned], laidTests := true, laidLooks := .later }
def SfitemTellsCardSaid : Prop := Claim7.holds Tryz.pinned (.plain (OpenSpec.ofChange sfitemTellsSpec)) sfitemTellsCard

/-- THE TIED CARD OF 'glacislaw05.SfitemBegins'. -/
def sfitemBeginsCard : Claim7 := { stood := { row := sfitemBeginsRow, standIns := [], harness := (true, "43e641fc9118eaf13bfc2e154968d2c44a674f9ba293517ad6241dfb687fde5e"), looks := true }, kinds := [], alts := [], laidByText := true, laidKinds := [.data, .data, .data, .data, .sentinel, .sentinel, .pinned], laidTests := true, laidLooks := .later }
def SfitemBeginsCardSaid : Prop := Claim7.holds Tryz.pinned (.plain (OpenSpec.ofChange sfitemBeginsSpec)) sfitemBeginsCard

/-- THE SECOND FORM's CARD OF 'glacislaw05.SfitemReads'. -/
def sfitemReadsUptoCard : Claim7 := { stood := { row := sfitemReadsUptoRow, standIns := [], harness := (true, "43e641fc9118eaf13bfc2e154968d2c44a674f9ba293517ad6241dfb687fde5e"), looks := true }, kinds := [], alts := [], laidByText := true, laidKinds := [.data, .data, .data, .data, .sentinel, .sentinel, .pinned], laidTests := true, laidLooks := .later }
def SfitemReadsUptoCardSaid : Prop := Claim7.holds Tryz.pinned (.plain (OpenSpec.upto sfitemReadsSpec)) sfitemReadsUptoCard

/-- THE SECOND FORM's CARD OF 'glacislaw05.SfitemTells'. -/
def sfitemTellsUptoCard : Claim7 := { stood := { row := sfitemTellsUptoRow, standIns := [], harness := (true, "43e641fc9118eaf13bfc2e154968d2c44a674f9ba293517ad6241dfb687fde5e"), looks := true }, kinds := [], alts := [], laidByText := true, laidKinds := [.data, .data, .data, .data, .sentinel, .sentinel, .pinned], laidTests := true, laidLooks := .later }
def SfitemTellsUptoCardSaid : Prop := Claim7.holds Tryz.pinned (.plain (OpenSpec.upto sfitemTellsSpec)) sfitemTellsUptoCard

/-- THE SECOND FORM's CARD OF 'glacislaw05.SfitemBegins'. -/
def sfitemBeginsUptoCard : Claim7 := { stood := { row := sfitemBeginsUptoRow, standIns := [], harness := (true, "43e641fc9118eaf13bfc2e154968d2c44a674f9ba293517ad6241dfb687fde5e"), looks := true }, kinds := [], alts := [], laidByText := true, laidKinds := [.data, .data, .data, .data, .sentinel, .sentinel, .pinned], laidTests := true, laidLooks := .later }
def SfitemBeginsUptoCardSaid : Prop := Claim7.holds Tryz.pinned (.plain (OpenSpec.upto sfitemBeginsSpec)) sfitemBeginsUptoCard
end Rows
end Go.Proofs.YtbbaokjkmcfceaaGreatDoor
