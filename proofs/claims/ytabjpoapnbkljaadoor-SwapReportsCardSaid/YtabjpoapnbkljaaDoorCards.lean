/-
  DERIVED. GIVEN WITH THE SEED: THE CARDS: each row of YtabjpoapnbkljaaDoorRows.lean that lists a variable, with what it lists TIED to the program's text (the seventh form; the later family's looks); each row that meets fmt, with fmt's text TOLD by the authors' own Lean function (tested against real Go, not proved from fmt's source: count such statements apart). THE CARD IS WHAT COUNTS. Prove the row's statement (the work); the ties are given (YtabjpoapnbkljaaDoorTie.lean); close each card by the builder's one call (the guide's Derived/Test/ToyasCard.lean, 'card_holds'). Laid BY PROGRAM, IN A SANDBOX (cutbox-door.mjs). By AI agents, Wed Nov 11 2026. No macro, syntax, notation, axiom, sorry.
-/
import Derived.Test.YtabjpoapnbkljaaDoorRows
import GoSem.ClaimSeven
namespace Go.Proofs.YtabjpoapnbkljaaDoor
namespace Rows

/-- THE TIED CARD OF 'glacislaw19.SwapTells'. -/
def swapTellsCard : Claim7 := { stood := { row := swapTellsRow, standIns := [], harness := (true, "331b9be8b124050f5d065c1f0e45e9fb6a9bd442e5494403058eac6474654531"), looks := false }, kinds := [], alts := [], laidByText := true, laidKinds := [.data, .pinned], laidTests := true, laidLooks := .later }
def SwapTellsCardSaid : Prop := Claim7.holds Tryd.pinned (.plain (OpenSpec.ofChange swapTellsSpec)) swapTellsCard

/-- THE TIED CARD OF 'glacislaw19.SwapSides'. -/
def swapSidesCard : Claim7 := { stood := { row := swapSidesRow, standIns := [], harness := (true, "331b9be8b124050f5d065c1f0e45e9fb6a9bd442e5494403058eac6474654531"), looks := false }, kinds := [], alts := [], laidByText := true, laidKinds := [.data, .pinned], laidTests := true, laidLooks := .later }
def SwapSidesCardSaid : Prop := Claim7.holds Tryd.pinned (.plain (OpenSpec.ofChange swapSidesSpec)) swapSidesCard

/-- THE TIED CARD OF 'glacislaw19.SwapIsolates'. -/
def swapIsolatesCard : Claim7 := { stood := { row := swapIsolatesRow, standIns := [], harness := (true, "331b9be8b124050f5d065c1f0e45e9fb6a9bd442e5494403058eac6474654531"), looks := false }, kinds := [], alts := [], laidByText := true, laidKinds := [.data, .pinned], laidTests := true, laidLooks := .later }
def SwapIsolatesCardSaid : Prop := Claim7.holds Tryd.pinned (.plain (OpenSpec.ofChange swapIsolatesSpec)) swapIsolatesCard

/-- THE TIED CARD OF 'glacislaw19.SwapReports'. -/
def swapReportsCard : Claim7 := { stood := { row := swapReportsRow, standIns := [], harness := (true, "331b9be8b124050f5d065c1f0e45e9fb6a9bd442e5494403058eac6474654531"), looks := false }, kinds := [], alts := [], laidByText := true, laidKinds := [.data, .pinned], laidTests := true, laidLooks := .later }
def SwapReportsCardSaid : Prop := Claim7.holds Tryd.pinned (.plain (OpenSpec.ofChange swapReportsSpec)) swapReportsCard

/-- THE TIED CARD OF 'glacislaw19.SwapFirst'. -/
def swapFirstCard : Claim7 := { stood := { row := swapFirstRow, standIns := [], harness := (true, "331b9be8b124050f5d065c1f0e45e9fb6a9bd442e5494403058eac6474654531"), looks := false }, kinds := [], alts := [], laidByText := true, laidKinds := [.data, .pinned], laidTests := true, laidLooks := .later }
def SwapFirstCardSaid : Prop := Claim7.holds Tryd.pinned (.plain (OpenSpec.ofChange swapFirstSpec)) swapFirstCard

/-- THE SECOND FORM's CARD OF 'glacislaw19.SwapTells'. -/
def swapTellsUptoCard : Claim7 := { stood := { row := swapTellsUptoRow, standIns := [], harness := (true, "331b9be8b124050f5d065c1f0e45e9fb6a9bd442e5494403058eac6474654531"), looks := false }, kinds := [], alts := [], laidByText := true, laidKinds := [.data, .pinned], laidTests := true, laidLooks := .later }
def SwapTellsUptoCardSaid : Prop := Claim7.holds Tryd.pinned (.plain (OpenSpec.upto swapTellsSpec)) swapTellsUptoCard

/-- THE SECOND FORM's CARD OF 'glacislaw19.SwapSides'. -/
def swapSidesUptoCard : Claim7 := { stood := { row := swapSidesUptoRow, standIns := [], harness := (true, "331b9be8b124050f5d065c1f0e45e9fb6a9bd442e5494403058eac6474654531"), looks := false }, kinds := [], alts := [], laidByText := true, laidKinds := [.data, .pinned], laidTests := true, laidLooks := .later }
def SwapSidesUptoCardSaid : Prop := Claim7.holds Tryd.pinned (.plain (OpenSpec.upto swapSidesSpec)) swapSidesUptoCard

/-- THE SECOND FORM's CARD OF 'glacislaw19.SwapIsolates'. -/
def swapIsolatesUptoCard : Claim7 := { stood := { row := swapIsolatesUptoRow, standIns := [], harness := (true, "331b9be8b124050f5d065c1f0e45e9fb6a9bd442e5494403058eac6474654531"), looks := false }, kinds := [], alts := [], laidByText := true, laidKinds := [.data, .pinned], laidTests := true, laidLooks := .later }
def SwapIsolatesUptoCardSaid : Prop := Claim7.holds Tryd.pinned (.plain (OpenSpec.upto swapIsolatesSpec)) swapIsolatesUptoCard

/-- THE SECOND FORM's CARD OF 'glacislaw19.SwapReports'. -/
def swapReportsUptoCard : Claim7 := { stood := { row := swapReportsUptoRow, standIns := [], harness := (true, "331b9be8b124050f5d065c1f0e45e9fb6a9bd442e5494403058eac6474654531"), looks := false }, kinds := [], alts := [], laidByText := true, laidKinds := [.data, .pinned], laidTests := true, laidLooks := .later }
def SwapReportsUptoCardSaid : Prop := Claim7.holds Tryd.pinned (.plain (OpenSpec.upto swapReportsSpec)) swapReportsUptoCard

/-- THE SECOND FORM's CARD OF 'glacislaw19.SwapFirst'. -/
def swapFirstUptoCard : Claim7 := { stood := { row := swapFirstUptoRow, standIns := [], harness := (true, "331b9be8b124050f5d065c1f0e45e9fb6a9bd442e5494403058eac6474654531"), looks := false }, kinds := [], alts := [], laidByText := true, laidKinds := [.data, .pinned], laidTests := true, laidLooks := .later }
def SwapFirstUptoCardSaid : Prop := Claim7.holds Tryd.pinned (.plain (OpenSpec.upto swapFirstSpec)) swapFirstUptoCard
end Rows
end Go.Proofs.YtabjpoapnbkljaaDoor
