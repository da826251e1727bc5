/-
  DERIVED. GIVEN WITH THE SEED: THE CARDS: each row of YtjdbiicjfpgjkaaGreatDoorRows.lean that lists a variable, with what it lists TIED to the program's text (the seventh form; the later family's looks); each row that meets fmt, with fmt's text TOLD by the authors' own Lean function (tested against real Go, not proved from fmt's source: count such statements apart). THE CARD IS WHAT COUNTS. Prove the row's statement (the work); the ties are given (YtjdbiicjfpgjkaaGreatDoorTie.lean); close each card by the builder's one call (the guide's Derived/Test/ToyasCard.lean, 'card_holds'). Laid BY PROGRAM, IN A SANDBOX (cutbox-door.mjs). By AI agents, Wed Nov 11 2026. No macro, syntax, notation, axiom, sorry.
-/
import Derived.Test.YtjdbiicjfpgjkaaGreatDoorRows
import GoSem.ClaimSeven
namespace Go.Proofs.YtjdbiicjfpgjkaaGreatDoor
namespace Rows

/-- THE TIED CARD OF 'glacislaw06.SfieldReads'. -/
def sfieldReadsCard : Claim7 := { stood := { row := sfieldReadsRow, standIns := [], harness := (true, "2a0ca6a73b7ec0deda741096cb128cffba62d6225e7be3e1d3e16d02a1a0ee6c"), looks := true }, kinds := [], alts := [], laidByText := true, laidKinds := [.data, .data, .data, .data, .sentinel, .sentinel, .pinned], laidTests := true, laidLooks := .later }
def SfieldReadsCardSaid : Prop := Claim7.holds Tryz.pinned (.plain (OpenSpec.ofChange sfieldReadsSpec)) sfieldReadsCard

/-- THE TIED CARD OF 'glacislaw06.SfieldKeys'. -/
def sfieldKeysCard : Claim7 := { stood := { row := sfieldKeysRow, standIns := [], harness := (true, "2a0ca6a73b7ec0deda741096cb128cffba62d6225e7be3e1d3e16d02a1a0ee6c"), looks := true }, kinds := [], alts := [], laidByText := true, laidKinds := [.data, .data, .data, .data, .sentinel, .sentinel, .pinned], laidTests := true, laidLooks := .later }
def SfieldKeysCardSaid : Prop := Claim7.holds Tryz.pinned (.plain (OpenSpec.ofChange sfieldKeysSpec)) sfieldKeysCard

/-- THE TIED CARD OF 'glacislaw06.SfieldJoins'. -/
def sfieldJoinsCard : Claim7 := { stood := { row := sfieldJoinsRow, standIns := [], harness := (true, "2a0ca6a73b7ec0deda741096cb128cffba62d6225e7be3e1d3e16d02a1a0ee6c"), looks := true }, kinds := [], alts := [], laidByText := true, laidKinds := [.data, .data, .data, .data, .sentinel, .sentinel, .pinned], laidTests := true, laidLooks := .later }
def SfieldJoinsCardSaid : Prop := Claim7.holds Tryz.pinned (.plain (OpenSpec.ofChange sfieldJoinsSpec)) sfieldJoinsCard

/-- THE TIED CARD OF 'glacislaw06.SfieldTells'. -/
def sfieldTellsCard : Claim7 := { stood := { row := sfieldTellsRow, standIns := [], harness := (true, "2a0ca6a73b7ec0deda741096cb128cffba62d6225e7be3e1d3e16d02a1a0ee6c"), looks := true }, kinds := [], alts := [], laidByText := true, laidKinds := [.data, .data, .data, .data, .sentinel, .sentinel, .pinned], laidTests := true, laidLooks := .later }
def SfieldTellsCardSaid : Prop := Claim7.holds Tryz.pinned (.plain (OpenSpec.ofChange sfieldTellsSpec)) sfieldTellsCard

/-- THE TIED CARD OF 'glacislaw06.SfieldBack'. -/
def sfieldBackCard : Claim7 := { stood := { row := sfieldBackRow, standIns := [], harness := (true, "2a0ca6a73b7ec0deda741096cb128cffba62d6225e7be3e1d3e16d02a1a0ee6c"), looks := true }, kinds := [], alts := [], laidByText := true, laidKinds := [.data, .data, .data, .data, .sentinel, .sentinel, .pinned], laidTests := true, laidLooks := .later }
def SfieldBackCardSaid : Prop := Claim7.holds Tryz.pinned (.plain (OpenSpec.ofChange sfieldBackSpec)) sfieldBackCard

/-- THE TIED CARD OF 'glacislaw06.SfieldItems'. -/
def sfieldItemsCard : Claim7 := { stood := { row := sfieldItemsRow, standIns := [], harness := (true, "2a0ca6a73b7ec0deda741096cb128cffba62d6225e7be3e1d3e16d02a1a0ee6c"), looks := true }, kinds := [], alts := [], laidByText := true, laidKinds := [.data, .data, .data, .data, .sentinel, .sentinel, .pinned], laidTests := true, laidLooks := .later }
def SfieldItemsCardSaid : Prop := Claim7.holds Tryz.pinned (.plain (OpenSpec.ofChange sfieldItemsSpec)) sfieldItemsCard

/-- THE SECOND FORM's CARD OF 'glacislaw06.SfieldReads'. -/
def sfieldReadsUptoCard : Claim7 := { stood := { row := sfieldReadsUptoRow, standIns := [], harness := (true, "2a0ca6a73b7ec0deda741096cb128cffba62d6225e7be3e1d3e16d02a1a0ee6c"), looks := true }, kinds := [], alts := [], laidByText := true, laidKinds := [.data, .data, .data, .data, .sentinel, .sentinel, .pinned], laidTests := true, laidLooks := .later }
def SfieldReadsUptoCardSaid : Prop := Claim7.holds Tryz.pinned (.plain (OpenSpec.upto sfieldReadsSpec)) sfieldReadsUptoCard

/-- THE SECOND FORM's CARD OF 'glacislaw06.SfieldKeys'. -/
def sfieldKeysUptoCard : Claim7 := { stood := { row := sfieldKeysUptoRow, standIns := [], harness := (true, "2a0ca6a73b7ec0deda741096cb128cffba62d6225e7be3e1d3e16d02a1a0ee6c"), looks := true }, kinds := [], alts := [], laidByText := true, laidKinds := [.data, .data, .data, .data, .sentinel, .sentinel, .pinned], laidTests := true, laidLooks := .later }
def SfieldKeysUptoCardSaid : Prop := Claim7.holds Tryz.pinned (.plain (OpenSpec.upto sfieldKeysSpec)) sfieldKeysUptoCard

/-- THE SECOND FORM's CARD OF 'glacislaw06.SfieldJoins'. -/
def sfieldJoinsUptoCard : Claim7 := { stood := { row := sfieldJoinsUptoRow, standIns := [], harness := (true, "2a0ca6a73b7ec0deda741096cb128cffba62d6225e7be3e1d3e16d02a1a0ee6c"), looks := true }, kinds := [], alts := [], laidByText := true, laidKinds := [.data, .data, .data, .data, .sentinel, .sentinel, .pinned], laidTests := true, laidLooks := .later }
def SfieldJoinsUptoCardSaid : Prop := Claim7.holds Tryz.pinned (.plain (OpenSpec.upto sfieldJoinsSpec)) sfieldJoinsUptoCard

/-- THE SECOND FORM's CARD OF 'glacislaw06.SfieldTells'. -/
def sfieldTellsUptoCard : Claim7 := { stood := { row := sfieldTellsUptoRow, standIns := [], harness := (true, "2a0ca6a73b7ec0deda741096cb128cffba62d6225e7be3e1d3e16d02a1a0ee6c"), looks := true }, kinds := [], alts := [], laidByText := true, laidKinds := [.data, .data, .data, .data, .sentinel, .sentinel, .pinned], laidTests := true, laidLooks := .later }
def SfieldTellsUptoCardSaid : Prop := Claim7.holds Tryz.pinned (.plain (OpenSpec.upto sfieldTellsSpec)) sfieldTellsUptoCard

/-- THE SECOND FORM's CARD OF 'glacislaw06.SfieldBack'. -/
def sfieldBackUptoCard : Claim7 := { stood := { row := sfieldBackUptoRow, standIns := [], harness := (true, "2a0ca6a73b7ec0deda741096cb128cffba62d6225e7be3e1d3e16d02a1a0ee6c"), looks := true }, kinds := [], alts := [], laidByText := true, laidKinds := [.data, .data, .data, .data, .sentinel, .sentinel, .pinned], laidTests := true, laidLooks := .later }
def SfieldBackUptoCardSaid : Prop := Claim7.holds Tryz.pinned (.plain (OpenSpec.upto sfieldBackSpec)) sfieldBackUptoCard

/-- THE SECOND FORM's CARD OF 'glacislaw06.SfieldItems'. -/
def sfieldItemsUptoCard : Claim7 := { stood := { row := sfieldItemsUptoRow, standIns := [], harness := (true, "2a0ca6a73b7ec0deda741096cb128cffba62d6225e7be3e1d3e16d02a1a0ee6c"), looks := true }, kinds := [], alts := [], laidByText := true, laidKinds := [.data, .data, .data, .data, .sentinel, .sentinel, .pinned], laidTests := true, laidLooks := .later }
def SfieldItemsUptoCardSaid : Prop := Claim7.holds Tryz.pinned (.plain (OpenSpec.upto sfieldItemsSpec)) sfieldItemsUptoCard
end Rows
end Go.Proofs.YtjdbiicjfpgjkaaGreatDoor
