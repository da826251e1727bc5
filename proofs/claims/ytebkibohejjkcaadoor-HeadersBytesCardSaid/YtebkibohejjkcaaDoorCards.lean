/-
  DERIVED. GIVEN WITH THE SEED: THE CARDS: each row of YtebkibohejjkcaaDoorRows.lean that lists a variable, with what it lists TIED to the program's text (the seventh form; the later family's looks); each row that meets fmt, with fmt's text TOLD by the authors' own Lean function (tested against real Go, not proved from fmt's source: count such statements apart). THE CARD IS WHAT COUNTS. Prove the row's statement (the work); the ties are given (YtebkibohejjkcaaDoorTie.lean); close each card by the builder's one call (the guide's Derived/Test/ToyasCard.lean, 'card_holds'). Laid BY PROGRAM, IN A SANDBOX (cutbox-door.mjs). By AI agents, Wed Nov 11 2026. No macro, syntax, notation, axiom, sorry.
-/
import Derived.Test.YtebkibohejjkcaaDoorRows
import GoSem.ClaimSeven
namespace Go.Proofs.YtebkibohejjkcaaDoor
namespace Rows

/-- THE TIED CARD OF 'glacislaw07.HeadersNames'. -/
def headersNamesCard : Claim7 := { stood := { row := headersNamesRow, standIns := [], harness := (true, "89dd6189613fa81c7ccbd78856e499d2daef4fa3d9bdb8add9aafc9610c6642b"), looks := false }, kinds := [], alts := [], laidByText := true, laidKinds := [.data, .pinned], laidTests := true, laidLooks := .later }
def HeadersNamesCardSaid : Prop := Claim7.holds Tryd.pinned (.plain (OpenSpec.ofChange headersNamesSpec)) headersNamesCard

/-- THE TIED CARD OF 'glacislaw07.HeadersJoins'. -/
def headersJoinsCard : Claim7 := { stood := { row := headersJoinsRow, standIns := [], harness := (true, "89dd6189613fa81c7ccbd78856e499d2daef4fa3d9bdb8add9aafc9610c6642b"), looks := false }, kinds := [], alts := [], laidByText := true, laidKinds := [.data, .pinned], laidTests := true, laidLooks := .later }
def HeadersJoinsCardSaid : Prop := Claim7.holds Tryd.pinned (.plain (OpenSpec.ofChange headersJoinsSpec)) headersJoinsCard

/-- THE TIED CARD OF 'glacislaw07.HeadersBytes'. -/
def headersBytesCard : Claim7 := { stood := { row := headersBytesRow, standIns := [], harness := (true, "89dd6189613fa81c7ccbd78856e499d2daef4fa3d9bdb8add9aafc9610c6642b"), looks := false }, kinds := [], alts := [], laidByText := true, laidKinds := [.data, .pinned], laidTests := true, laidLooks := .later }
def HeadersBytesCardSaid : Prop := Claim7.holds Tryd.pinned (.plain (OpenSpec.ofChange headersBytesSpec)) headersBytesCard

/-- THE TIED CARD OF 'glacislaw07.HeadersPlain'. -/
def headersPlainCard : Claim7 := { stood := { row := headersPlainRow, standIns := [], harness := (true, "89dd6189613fa81c7ccbd78856e499d2daef4fa3d9bdb8add9aafc9610c6642b"), looks := false }, kinds := [], alts := [], laidByText := true, laidKinds := [.data, .pinned], laidTests := true, laidLooks := .later }
def HeadersPlainCardSaid : Prop := Claim7.holds Tryd.pinned (.plain (OpenSpec.ofChange headersPlainSpec)) headersPlainCard

/-- THE SECOND FORM's CARD OF 'glacislaw07.HeadersNames'. -/
def headersNamesUptoCard : Claim7 := { stood := { row := headersNamesUptoRow, standIns := [], harness := (true, "89dd6189613fa81c7ccbd78856e499d2daef4fa3d9bdb8add9aafc9610c6642b"), looks := false }, kinds := [], alts := [], laidByText := true, laidKinds := [.data, .pinned], laidTests := true, laidLooks := .later }
def HeadersNamesUptoCardSaid : Prop := Claim7.holds Tryd.pinned (.plain (OpenSpec.upto headersNamesSpec)) headersNamesUptoCard

/-- THE SECOND FORM's CARD OF 'glacislaw07.HeadersJoins'. -/
def headersJoinsUptoCard : Claim7 := { stood := { row := headersJoinsUptoRow, standIns := [], harness := (true, "89dd6189613fa81c7ccbd78856e499d2daef4fa3d9bdb8add9aafc9610c6642b"), looks := false }, kinds := [], alts := [], laidByText := true, laidKinds := [.data, .pinned], laidTests := true, laidLooks := .later }
def HeadersJoinsUptoCardSaid : Prop := Claim7.holds Tryd.pinned (.plain (OpenSpec.upto headersJoinsSpec)) headersJoinsUptoCard

/-- THE SECOND FORM's CARD OF 'glacislaw07.HeadersBytes'. -/
def headersBytesUptoCard : Claim7 := { stood := { row := headersBytesUptoRow, standIns := [], harness := (true, "89dd6189613fa81c7ccbd78856e499d2daef4fa3d9bdb8add9aafc9610c6642b"), looks := false }, kinds := [], alts := [], laidByText := true, laidKinds := [.data, .pinned], laidTests := true, laidLooks := .later }
def HeadersBytesUptoCardSaid : Prop := Claim7.holds Tryd.pinned (.plain (OpenSpec.upto headersBytesSpec)) headersBytesUptoCard

/-- THE SECOND FORM's CARD OF 'glacislaw07.HeadersPlain'. -/
def headersPlainUptoCard : Claim7 := { stood := { row := headersPlainUptoRow, standIns := [], harness := (true, "89dd6189613fa81c7ccbd78856e499d2daef4fa3d9bdb8add9aafc9610c6642b"), looks := false }, kinds := [], alts := [], laidByText := true, laidKinds := [.data, .pinned], laidTests := true, laidLooks := .later }
def HeadersPlainUptoCardSaid : Prop := Claim7.holds Tryd.pinned (.plain (OpenSpec.upto headersPlainSpec)) headersPlainUptoCard
end Rows
end Go.Proofs.YtebkibohejjkcaaDoor
