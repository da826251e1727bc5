/-
  DERIVED. GIVEN WITH THE SEED: THE CARDS: each row of YtkjlhhhnananlaaDoorRows.lean that lists a variable, with what it lists TIED to the program's text (the seventh form; the later family's looks); each row that meets fmt, with fmt's text TOLD by the authors' own Lean function (tested against real Go, not proved from fmt's source: count such statements apart). THE CARD IS WHAT COUNTS. Prove the row's statement (the work); the ties are given (YtkjlhhhnananlaaDoorTie.lean); close each card by the builder's one call (the guide's Derived/Test/ToyasCard.lean, 'card_holds'). Laid BY PROGRAM, IN A SANDBOX (cutbox-door.mjs). By AI agents, Wed Nov 11 2026. No macro, syntax, notation, axiom, sorry.
-/
import Derived.Test.YtkjlhhhnananlaaDoorRows
import GoSem.ClaimSeven
namespace Go.Proofs.YtkjlhhhnananlaaDoor
namespace Rows

/-- THE TIED CARD OF 'glacislaw10.CspparseReads'. -/
def cspparseReadsCard : Claim7 := { stood := { row := cspparseReadsRow, standIns := [], harness := (true, "5e3e867b7c374fda36becde7c58adc812e3e74bb7de7207c45524b5acbc837aa"), looks := false }, kinds := [], alts := [], laidByText := true, laidKinds := [.data, .pinned], laidTests := true, laidLooks := .later }
def CspparseReadsCardSaid : Prop := Claim7.holds Tryd.pinned (.plain (OpenSpec.ofChange cspparseReadsSpec)) cspparseReadsCard

/-- THE TIED CARD OF 'glacislaw10.CspparseHeads'. -/
def cspparseHeadsCard : Claim7 := { stood := { row := cspparseHeadsRow, standIns := [], harness := (true, "5e3e867b7c374fda36becde7c58adc812e3e74bb7de7207c45524b5acbc837aa"), looks := false }, kinds := [], alts := [], laidByText := true, laidKinds := [.data, .pinned], laidTests := true, laidLooks := .later }
def CspparseHeadsCardSaid : Prop := Claim7.holds Tryd.pinned (.plain (OpenSpec.ofChange cspparseHeadsSpec)) cspparseHeadsCard

/-- THE TIED CARD OF 'glacislaw10.CspparseTells'. -/
def cspparseTellsCard : Claim7 := { stood := { row := cspparseTellsRow, standIns := [], harness := (true, "5e3e867b7c374fda36becde7c58adc812e3e74bb7de7207c45524b5acbc837aa"), looks := false }, kinds := [], alts := [], laidByText := true, laidKinds := [.data, .pinned], laidTests := true, laidLooks := .later }
def CspparseTellsCardSaid : Prop := Claim7.holds Tryd.pinned (.plain (OpenSpec.ofChange cspparseTellsSpec)) cspparseTellsCard

/-- THE TIED CARD OF 'glacislaw10.CspparseBack'. -/
def cspparseBackCard : Claim7 := { stood := { row := cspparseBackRow, standIns := [], harness := (true, "5e3e867b7c374fda36becde7c58adc812e3e74bb7de7207c45524b5acbc837aa"), looks := false }, kinds := [], alts := [], laidByText := true, laidKinds := [.data, .pinned], laidTests := true, laidLooks := .later }
def CspparseBackCardSaid : Prop := Claim7.holds Tryd.pinned (.plain (OpenSpec.ofChange cspparseBackSpec)) cspparseBackCard

/-- THE TIED CARD OF 'glacislaw10.CspparseFirst'. -/
def cspparseFirstCard : Claim7 := { stood := { row := cspparseFirstRow, standIns := [], harness := (true, "5e3e867b7c374fda36becde7c58adc812e3e74bb7de7207c45524b5acbc837aa"), looks := false }, kinds := [], alts := [], laidByText := true, laidKinds := [.data, .pinned], laidTests := true, laidLooks := .later }
def CspparseFirstCardSaid : Prop := Claim7.holds Tryd.pinned (.plain (OpenSpec.ofChange cspparseFirstSpec)) cspparseFirstCard

/-- THE TIED CARD OF 'glacislaw10.CspparseLines'. -/
def cspparseLinesCard : Claim7 := { stood := { row := cspparseLinesRow, standIns := [], harness := (true, "5e3e867b7c374fda36becde7c58adc812e3e74bb7de7207c45524b5acbc837aa"), looks := false }, kinds := [], alts := [], laidByText := true, laidKinds := [.data, .pinned], laidTests := true, laidLooks := .later }
def CspparseLinesCardSaid : Prop := Claim7.holds Tryd.pinned (.plain (OpenSpec.ofChange cspparseLinesSpec)) cspparseLinesCard

/-- THE SECOND FORM's CARD OF 'glacislaw10.CspparseReads'. -/
def cspparseReadsUptoCard : Claim7 := { stood := { row := cspparseReadsUptoRow, standIns := [], harness := (true, "5e3e867b7c374fda36becde7c58adc812e3e74bb7de7207c45524b5acbc837aa"), looks := false }, kinds := [], alts := [], laidByText := true, laidKinds := [.data, .pinned], laidTests := true, laidLooks := .later }
def CspparseReadsUptoCardSaid : Prop := Claim7.holds Tryd.pinned (.plain (OpenSpec.upto cspparseReadsSpec)) cspparseReadsUptoCard

/-- THE SECOND FORM's CARD OF 'glacislaw10.CspparseHeads'. -/
def cspparseHeadsUptoCard : Claim7 := { stood := { row := cspparseHeadsUptoRow, standIns := [], harness := (true, "5e3e867b7c374fda36becde7c58adc812e3e74bb7de7207c45524b5acbc837aa"), looks := false }, kinds := [], alts := [], laidByText := true, laidKinds := [.data, .pinned], laidTests := true, laidLooks := .later }
def CspparseHeadsUptoCardSaid : Prop := Claim7.holds Tryd.pinned (.plain (OpenSpec.upto cspparseHeadsSpec)) cspparseHeadsUptoCard

/-- THE SECOND FORM's CARD OF 'glacislaw10.CspparseTells'. -/
def cspparseTellsUptoCard : Claim7 := { stood := { row := cspparseTellsUptoRow, standIns := [], harness := (true, "5e3e867b7c374fda36becde7c58adc812e3e74bb7de7207c45524b5acbc837aa"), looks := false }, kinds := [], alts := [], laidByText := true, laidKinds := [.data, .pinned], laidTests := true, laidLooks := .later }
def CspparseTellsUptoCardSaid : Prop := Claim7.holds Tryd.pinned (.plain (OpenSpec.upto cspparseTellsSpec)) cspparseTellsUptoCard

/-- THE SECOND FORM's CARD OF 'glacislaw10.CspparseBack'. -/
def cspparseBackUptoCard : Claim7 := { stood := { row := cspparseBackUptoRow, standIns := [], harness := (true, "5e3e867b7c374fda36becde7c58adc812e3e74bb7de7207c45524b5acbc837aa"), looks := false }, kinds := [], alts := [], laidByText := true, laidKinds := [.data, .pinned], laidTests := true, laidLooks := .later }
def CspparseBackUptoCardSaid : Prop := Claim7.holds Tryd.pinned (.plain (OpenSpec.upto cspparseBackSpec)) cspparseBackUptoCard

/-- THE SECOND FORM's CARD OF 'glacislaw10.CspparseFirst'. -/
def cspparseFirstUptoCard : Claim7 := { stood := { row := cspparseFirstUptoRow, standIns := [], harness := (true, "5e3e867b7c374fda36becde7c58adc812e3e74bb7de7207c45524b5acbc837aa"), looks := false }, kinds := [], alts := [], laidByText := true, laidKinds := [.data, .pinned], laidTests := true, laidLooks := .later }
def CspparseFirstUptoCardSaid : Prop := Claim7.holds Tryd.pinned (.plain (OpenSpec.upto cspparseFirstSpec)) cspparseFirstUptoCard

/-- THE SECOND FORM's CARD OF 'glacislaw10.CspparseLines'. -/
def cspparseLinesUptoCard : Claim7 := { stood := { row := cspparseLinesUptoRow, standIns := [], harness := (true, "5e3e867b7c374fda36becde7c58adc812e3e74bb7de7207c45524b5acbc837aa"), looks := false }, kinds := [], alts := [], laidByText := true, laidKinds := [.data, .pinned], laidTests := true, laidLooks := .later }
def CspparseLinesUptoCardSaid : Prop := Claim7.holds Tryd.pinned (.plain (OpenSpec.upto cspparseLinesSpec)) cspparseLinesUptoCard
end Rows
end Go.Proofs.YtkjlhhhnananlaaDoor
