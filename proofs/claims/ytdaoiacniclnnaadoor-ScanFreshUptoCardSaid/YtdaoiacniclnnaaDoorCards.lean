/-
  DERIVED. GIVEN WITH THE SEED: THE CARDS: each row of YtdaoiacniclnnaaDoorRows.lean that lists a variable, with what it lists TIED to the program's text (the seventh form; the later family's looks); each row that meets fmt, with fmt's text TOLD by the authors' own Lean function (tested against real Go, not proved from fmt's source: count such statements apart). THE CARD IS WHAT COUNTS. Prove the row's statement (the work); the ties are given (YtdaoiacniclnnaaDoorTie.lean); close each card by the builder's one call (the guide's Derived/Test/ToyasCard.lean, 'card_holds'). Laid BY PROGRAM, IN A SANDBOX (cutbox-door.mjs). By AI agents, Wed Nov 11 2026. No macro, syntax, notation, axiom, sorry.
-/
import Derived.Test.YtdaoiacniclnnaaDoorRows
import GoSem.ClaimSeven
namespace Go.Proofs.YtdaoiacniclnnaaDoor
namespace Rows

/-- THE TIED CARD OF 'lemmalaw06.StmtPrints'. -/
def stmtPrintsCard : Claim7 := { stood := { row := stmtPrintsRow, standIns := [], harness := (true, "89aa4626d73e2f3135ea592fcf6bb0e69fdf5efbe4364c72292306af592ae69f"), looks := true }, kinds := [], alts := [], laidByText := true, laidKinds := [.data], laidTests := true, laidLooks := .later }
def StmtPrintsCardSaid : Prop := Claim7.holds Tryd.pinned (.plain (OpenSpec.ofChange stmtPrintsSpec)) stmtPrintsCard

/-- THE TIED CARD OF 'lemmalaw01.ScanAsks'. -/
def scanAsksCard : Claim7 := { stood := { row := scanAsksRow, standIns := [], harness := (true, "89aa4626d73e2f3135ea592fcf6bb0e69fdf5efbe4364c72292306af592ae69f"), looks := true }, kinds := [], alts := [], laidByText := true, laidKinds := [.data], laidTests := true, laidLooks := .later }
def ScanAsksCardSaid : Prop := Claim7.holds Tryd.pinned (.plain (OpenSpec.ofChange scanAsksSpec)) scanAsksCard

/-- THE TIED CARD OF 'lemmalaw01.ScanWords'. -/
def scanWordsCard : Claim7 := { stood := { row := scanWordsRow, standIns := [], harness := (true, "89aa4626d73e2f3135ea592fcf6bb0e69fdf5efbe4364c72292306af592ae69f"), looks := true }, kinds := [], alts := [], laidByText := true, laidKinds := [.data], laidTests := true, laidLooks := .later }
def ScanWordsCardSaid : Prop := Claim7.holds Tryd.pinned (.plain (OpenSpec.ofChange scanWordsSpec)) scanWordsCard

/-- THE TIED CARD OF 'lemmalaw01.ScanTokens'. -/
def scanTokensCard : Claim7 := { stood := { row := scanTokensRow, standIns := [], harness := (true, "89aa4626d73e2f3135ea592fcf6bb0e69fdf5efbe4364c72292306af592ae69f"), looks := true }, kinds := [], alts := [], laidByText := true, laidKinds := [.data], laidTests := true, laidLooks := .later }
def ScanTokensCardSaid : Prop := Claim7.holds Tryd.pinned (.plain (OpenSpec.ofChange scanTokensSpec)) scanTokensCard

/-- THE TIED CARD OF 'lemmalaw01.ScanSpread'. -/
def scanSpreadCard : Claim7 := { stood := { row := scanSpreadRow, standIns := [], harness := (true, "89aa4626d73e2f3135ea592fcf6bb0e69fdf5efbe4364c72292306af592ae69f"), looks := true }, kinds := [], alts := [], laidByText := true, laidKinds := [.data], laidTests := true, laidLooks := .later }
def ScanSpreadCardSaid : Prop := Claim7.holds Tryd.pinned (.plain (OpenSpec.ofChange scanSpreadSpec)) scanSpreadCard

/-- THE TIED CARD OF 'lemmalaw01.ScanFirst'. -/
def scanFirstCard : Claim7 := { stood := { row := scanFirstRow, standIns := [], harness := (true, "89aa4626d73e2f3135ea592fcf6bb0e69fdf5efbe4364c72292306af592ae69f"), looks := true }, kinds := [], alts := [], laidByText := true, laidKinds := [.data], laidTests := true, laidLooks := .later }
def ScanFirstCardSaid : Prop := Claim7.holds Tryd.pinned (.plain (OpenSpec.ofChange scanFirstSpec)) scanFirstCard

/-- THE TIED CARD OF 'lemmalaw01.ScanLimits'. -/
def scanLimitsCard : Claim7 := { stood := { row := scanLimitsRow, standIns := [], harness := (true, "89aa4626d73e2f3135ea592fcf6bb0e69fdf5efbe4364c72292306af592ae69f"), looks := true }, kinds := [], alts := [], laidByText := true, laidKinds := [.data], laidTests := true, laidLooks := .later }
def ScanLimitsCardSaid : Prop := Claim7.holds Tryd.pinned (.plain (OpenSpec.ofChange scanLimitsSpec)) scanLimitsCard

/-- THE TIED CARD OF 'lemmalaw01.ScanFresh'. -/
def scanFreshCard : Claim7 := { stood := { row := scanFreshRow, standIns := [], harness := (true, "89aa4626d73e2f3135ea592fcf6bb0e69fdf5efbe4364c72292306af592ae69f"), looks := true }, kinds := [], alts := [], laidByText := true, laidKinds := [.data], laidTests := true, laidLooks := .later }
def ScanFreshCardSaid : Prop := Claim7.holds Tryd.pinned (.plain (OpenSpec.ofChange scanFreshSpec)) scanFreshCard

/-- THE TIED CARD OF 'lemmalaw06.StmtReads'. -/
def stmtReadsCard : Claim7 := { stood := { row := stmtReadsRow, standIns := [], harness := (true, "89aa4626d73e2f3135ea592fcf6bb0e69fdf5efbe4364c72292306af592ae69f"), looks := true }, kinds := [], alts := [], laidByText := true, laidKinds := [.data], laidTests := true, laidLooks := .later }
def StmtReadsCardSaid : Prop := Claim7.holds Tryd.pinned (.plain (OpenSpec.ofChange stmtReadsSpec)) stmtReadsCard

/-- THE TIED CARD OF 'lemmalaw06.StmtPlaces'. -/
def stmtPlacesCard : Claim7 := { stood := { row := stmtPlacesRow, standIns := [], harness := (true, "89aa4626d73e2f3135ea592fcf6bb0e69fdf5efbe4364c72292306af592ae69f"), looks := true }, kinds := [], alts := [], laidByText := true, laidKinds := [.data], laidTests := true, laidLooks := .later }
def StmtPlacesCardSaid : Prop := Claim7.holds Tryd.pinned (.plain (OpenSpec.ofChange stmtPlacesSpec)) stmtPlacesCard

/-- THE TIED CARD OF 'lemmalaw06.StmtKeeps'. -/
def stmtKeepsCard : Claim7 := { stood := { row := stmtKeepsRow, standIns := [], harness := (true, "89aa4626d73e2f3135ea592fcf6bb0e69fdf5efbe4364c72292306af592ae69f"), looks := true }, kinds := [], alts := [], laidByText := true, laidKinds := [.data], laidTests := true, laidLooks := .later }
def StmtKeepsCardSaid : Prop := Claim7.holds Tryd.pinned (.plain (OpenSpec.ofChange stmtKeepsSpec)) stmtKeepsCard

/-- THE TIED CARD OF 'lemmalaw06.StmtBack'. -/
def stmtBackCard : Claim7 := { stood := { row := stmtBackRow, standIns := [], harness := (true, "89aa4626d73e2f3135ea592fcf6bb0e69fdf5efbe4364c72292306af592ae69f"), looks := true }, kinds := [], alts := [], laidByText := true, laidKinds := [.data], laidTests := true, laidLooks := .later }
def StmtBackCardSaid : Prop := Claim7.holds Tryd.pinned (.plain (OpenSpec.ofChange stmtBackSpec)) stmtBackCard

/-- THE TIED CARD OF 'lemmalaw06.StmtParted'. -/
def stmtPartedCard : Claim7 := { stood := { row := stmtPartedRow, standIns := [], harness := (true, "89aa4626d73e2f3135ea592fcf6bb0e69fdf5efbe4364c72292306af592ae69f"), looks := true }, kinds := [], alts := [], laidByText := true, laidKinds := [.data], laidTests := true, laidLooks := .later }
def StmtPartedCardSaid : Prop := Claim7.holds Tryd.pinned (.plain (OpenSpec.ofChange stmtPartedSpec)) stmtPartedCard

/-- THE TIED CARD OF 'lemmalaw06.StmtFaults'. -/
def stmtFaultsCard : Claim7 := { stood := { row := stmtFaultsRow, standIns := [], harness := (true, "89aa4626d73e2f3135ea592fcf6bb0e69fdf5efbe4364c72292306af592ae69f"), looks := true }, kinds := [], alts := [], laidByText := true, laidKinds := [.data], laidTests := true, laidLooks := .later }
def StmtFaultsCardSaid : Prop := Claim7.holds Tryd.pinned (.plain (OpenSpec.ofChange stmtFaultsSpec)) stmtFaultsCard

/-- THE SECOND FORM's CARD OF 'lemmalaw06.StmtPrints'. -/
def stmtPrintsUptoCard : Claim7 := { stood := { row := stmtPrintsUptoRow, standIns := [], harness := (true, "89aa4626d73e2f3135ea592fcf6bb0e69fdf5efbe4364c72292306af592ae69f"), looks := true }, kinds := [], alts := [], laidByText := true, laidKinds := [.data], laidTests := true, laidLooks := .later }
def StmtPrintsUptoCardSaid : Prop := Claim7.holds Tryd.pinned (.plain (OpenSpec.upto stmtPrintsSpec)) stmtPrintsUptoCard

/-- THE SECOND FORM's CARD OF 'lemmalaw01.ScanAsks'. -/
def scanAsksUptoCard : Claim7 := { stood := { row := scanAsksUptoRow, standIns := [], harness := (true, "89aa4626d73e2f3135ea592fcf6bb0e69fdf5efbe4364c72292306af592ae69f"), looks := true }, kinds := [], alts := [], laidByText := true, laidKinds := [.data], laidTests := true, laidLooks := .later }
def ScanAsksUptoCardSaid : Prop := Claim7.holds Tryd.pinned (.plain (OpenSpec.upto scanAsksSpec)) scanAsksUptoCard

/-- THE SECOND FORM's CARD OF 'lemmalaw01.ScanWords'. -/
def scanWordsUptoCard : Claim7 := { stood := { row := scanWordsUptoRow, standIns := [], harness := (true, "89aa4626d73e2f3135ea592fcf6bb0e69fdf5efbe4364c72292306af592ae69f"), looks := true }, kinds := [], alts := [], laidByText := true, laidKinds := [.data], laidTests := true, laidLooks := .later }
def ScanWordsUptoCardSaid : Prop := Claim7.holds Tryd.pinned (.plain (OpenSpec.upto scanWordsSpec)) scanWordsUptoCard

/-- THE SECOND FORM's CARD OF 'lemmalaw01.ScanTokens'. -/
def scanTokensUptoCard : Claim7 := { stood := { row := scanTokensUptoRow, standIns := [], harness := (true, "89aa4626d73e2f3135ea592fcf6bb0e69fdf5efbe4364c72292306af592ae69f"), looks := true }, kinds := [], alts := [], laidByText := true, laidKinds := [.data], laidTests := true, laidLooks := .later }
def ScanTokensUptoCardSaid : Prop := Claim7.holds Tryd.pinned (.plain (OpenSpec.upto scanTokensSpec)) scanTokensUptoCard

/-- THE SECOND FORM's CARD OF 'lemmalaw01.ScanSpread'. -/
def scanSpreadUptoCard : Claim7 := { stood := { row := scanSpreadUptoRow, standIns := [], harness := (true, "89aa4626d73e2f3135ea592fcf6bb0e69fdf5efbe4364c72292306af592ae69f"), looks := true }, kinds := [], alts := [], laidByText := true, laidKinds := [.data], laidTests := true, laidLooks := .later }
def ScanSpreadUptoCardSaid : Prop := Claim7.holds Tryd.pinned (.plain (OpenSpec.upto scanSpreadSpec)) scanSpreadUptoCard

/-- THE SECOND FORM's CARD OF 'lemmalaw01.ScanFirst'. -/
def scanFirstUptoCard : Claim7 := { stood := { row := scanFirstUptoRow, standIns := [], harness := (true, "89aa4626d73e2f3135ea592fcf6bb0e69fdf5efbe4364c72292306af592ae69f"), looks := true }, kinds := [], alts := [], laidByText := true, laidKinds := [.data], laidTests := true, laidLooks := .later }
def ScanFirstUptoCardSaid : Prop := Claim7.holds Tryd.pinned (.plain (OpenSpec.upto scanFirstSpec)) scanFirstUptoCard

/-- THE SECOND FORM's CARD OF 'lemmalaw01.ScanLimits'. -/
def scanLimitsUptoCard : Claim7 := { stood := { row := scanLimitsUptoRow, standIns := [], harness := (true, "89aa4626d73e2f3135ea592fcf6bb0e69fdf5efbe4364c72292306af592ae69f"), looks := true }, kinds := [], alts := [], laidByText := true, laidKinds := [.data], laidTests := true, laidLooks := .later }
def ScanLimitsUptoCardSaid : Prop := Claim7.holds Tryd.pinned (.plain (OpenSpec.upto scanLimitsSpec)) scanLimitsUptoCard

/-- THE SECOND FORM's CARD OF 'lemmalaw01.ScanFresh'. -/
def scanFreshUptoCard : Claim7 := { stood := { row := scanFreshUptoRow, standIns := [], harness := (true, "89aa4626d73e2f3135ea592fcf6bb0e69fdf5efbe4364c72292306af592ae69f"), looks := true }, kinds := [], alts := [], laidByText := true, laidKinds := [.data], laidTests := true, laidLooks := .later }
def ScanFreshUptoCardSaid : Prop := Claim7.holds Tryd.pinned (.plain (OpenSpec.upto scanFreshSpec)) scanFreshUptoCard

/-- THE SECOND FORM's CARD OF 'lemmalaw06.StmtReads'. -/
def stmtReadsUptoCard : Claim7 := { stood := { row := stmtReadsUptoRow, standIns := [], harness := (true, "89aa4626d73e2f3135ea592fcf6bb0e69fdf5efbe4364c72292306af592ae69f"), looks := true }, kinds := [], alts := [], laidByText := true, laidKinds := [.data], laidTests := true, laidLooks := .later }
def StmtReadsUptoCardSaid : Prop := Claim7.holds Tryd.pinned (.plain (OpenSpec.upto stmtReadsSpec)) stmtReadsUptoCard

/-- THE SECOND FORM's CARD OF 'lemmalaw06.StmtPlaces'. -/
def stmtPlacesUptoCard : Claim7 := { stood := { row := stmtPlacesUptoRow, standIns := [], harness := (true, "89aa4626d73e2f3135ea592fcf6bb0e69fdf5efbe4364c72292306af592ae69f"), looks := true }, kinds := [], alts := [], laidByText := true, laidKinds := [.data], laidTests := true, laidLooks := .later }
def StmtPlacesUptoCardSaid : Prop := Claim7.holds Tryd.pinned (.plain (OpenSpec.upto stmtPlacesSpec)) stmtPlacesUptoCard

/-- THE SECOND FORM's CARD OF 'lemmalaw06.StmtKeeps'. -/
def stmtKeepsUptoCard : Claim7 := { stood := { row := stmtKeepsUptoRow, standIns := [], harness := (true, "89aa4626d73e2f3135ea592fcf6bb0e69fdf5efbe4364c72292306af592ae69f"), looks := true }, kinds := [], alts := [], laidByText := true, laidKinds := [.data], laidTests := true, laidLooks := .later }
def StmtKeepsUptoCardSaid : Prop := Claim7.holds Tryd.pinned (.plain (OpenSpec.upto stmtKeepsSpec)) stmtKeepsUptoCard

/-- THE SECOND FORM's CARD OF 'lemmalaw06.StmtBack'. -/
def stmtBackUptoCard : Claim7 := { stood := { row := stmtBackUptoRow, standIns := [], harness := (true, "89aa4626d73e2f3135ea592fcf6bb0e69fdf5efbe4364c72292306af592ae69f"), looks := true }, kinds := [], alts := [], laidByText := true, laidKinds := [.data], laidTests := true, laidLooks := .later }
def StmtBackUptoCardSaid : Prop := Claim7.holds Tryd.pinned (.plain (OpenSpec.upto stmtBackSpec)) stmtBackUptoCard

/-- THE SECOND FORM's CARD OF 'lemmalaw06.StmtParted'. -/
def stmtPartedUptoCard : Claim7 := { stood := { row := stmtPartedUptoRow, standIns := [], harness := (true, "89aa4626d73e2f3135ea592fcf6bb0e69fdf5efbe4364c72292306af592ae69f"), looks := true }, kinds := [], alts := [], laidByText := true, laidKinds := [.data], laidTests := true, laidLooks := .later }
def StmtPartedUptoCardSaid : Prop := Claim7.holds Tryd.pinned (.plain (OpenSpec.upto stmtPartedSpec)) stmtPartedUptoCard

/-- THE SECOND FORM's CARD OF 'lemmalaw06.StmtFaults'. -/
def stmtFaultsUptoCard : Claim7 := { stood := { row := stmtFaultsUptoRow, standIns := [], harness := (true, "89aa4626d73e2f3135ea592fcf6bb0e69fdf5efbe4364c72292306af592ae69f"), looks := true }, kinds := [], alts := [], laidByText := true, laidKinds := [.data], laidTests := true, laidLooks := .later }
def StmtFaultsUptoCardSaid : Prop := Claim7.holds Tryd.pinned (.plain (OpenSpec.upto stmtFaultsSpec)) stmtFaultsUptoCard
end Rows
end Go.Proofs.YtdaoiacniclnnaaDoor
