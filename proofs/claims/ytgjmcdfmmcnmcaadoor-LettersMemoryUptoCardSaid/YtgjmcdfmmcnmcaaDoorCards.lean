/-
  DERIVED. GIVEN WITH THE SEED: THE CARDS: each row of YtgjmcdfmmcnmcaaDoorRows.lean that lists a variable, with what it lists TIED to the program's text (the seventh form; the later family's looks); each row that meets fmt, with fmt's text TOLD by the authors' own Lean function (tested against real Go, not proved from fmt's source: count such statements apart). THE CARD IS WHAT COUNTS. Prove the row's statement (the work); the ties are given (YtgjmcdfmmcnmcaaDoorTie.lean); close each card by the builder's one call (the guide's Derived/Test/ToyasCard.lean, 'card_holds'). Laid BY PROGRAM, IN A SANDBOX (cutbox-door.mjs). By AI agents, Wed Nov 11 2026. No macro, syntax, notation, axiom, sorry.
-/
import Derived.Test.YtgjmcdfmmcnmcaaDoorRows
import GoSem.ClaimSeven
namespace Go.Proofs.YtgjmcdfmmcnmcaaDoor
namespace Rows

/-- THE TIED CARD OF 'lemmalaw10.ProofParses'. -/
def proofParsesCard : Claim7 := { stood := { row := proofParsesRow, standIns := [], harness := (true, "9f9e92eeb2326352dcea9d68dd886557313b591b79175341b602fedd3ae70b8b"), looks := false }, kinds := [], alts := [], laidByText := true, laidKinds := [.data, .data, .pinned], laidTests := true, laidLooks := .later }
def ProofParsesCardSaid : Prop := Claim7.holds Tryd.pinned (.plain (OpenSpec.ofChange proofParsesSpec)) proofParsesCard

/-- THE TIED CARD OF 'lemmalaw10.ProofKeeps'. -/
def proofKeepsCard : Claim7 := { stood := { row := proofKeepsRow, standIns := [], harness := (true, "9f9e92eeb2326352dcea9d68dd886557313b591b79175341b602fedd3ae70b8b"), looks := false }, kinds := [], alts := [], laidByText := true, laidKinds := [.data, .data, .pinned], laidTests := true, laidLooks := .later }
def ProofKeepsCardSaid : Prop := Claim7.holds Tryd.pinned (.plain (OpenSpec.ofChange proofKeepsSpec)) proofKeepsCard

/-- THE TIED CARD OF 'lemmalaw09.LettersForms'. -/
def lettersFormsCard : Claim7 := { stood := { row := lettersFormsRow, standIns := [], harness := (true, "9f9e92eeb2326352dcea9d68dd886557313b591b79175341b602fedd3ae70b8b"), looks := false }, kinds := [], alts := [], laidByText := true, laidKinds := [.data, .pinned], laidTests := true, laidLooks := .later }
def LettersFormsCardSaid : Prop := Claim7.holds Tryd.pinned (.plain (OpenSpec.ofChange lettersFormsSpec)) lettersFormsCard

/-- THE TIED CARD OF 'lemmalaw09.LettersLong'. -/
def lettersLongCard : Claim7 := { stood := { row := lettersLongRow, standIns := [], harness := (true, "9f9e92eeb2326352dcea9d68dd886557313b591b79175341b602fedd3ae70b8b"), looks := false }, kinds := [], alts := [], laidByText := true, laidKinds := [.data, .pinned], laidTests := true, laidLooks := .later }
def LettersLongCardSaid : Prop := Claim7.holds Tryd.pinned (.plain (OpenSpec.ofChange lettersLongSpec)) lettersLongCard

/-- THE TIED CARD OF 'lemmalaw09.LettersPlays'. -/
def lettersPlaysCard : Claim7 := { stood := { row := lettersPlaysRow, standIns := [], harness := (true, "9f9e92eeb2326352dcea9d68dd886557313b591b79175341b602fedd3ae70b8b"), looks := false }, kinds := [], alts := [], laidByText := true, laidKinds := [.data, .pinned], laidTests := true, laidLooks := .later }
def LettersPlaysCardSaid : Prop := Claim7.holds Tryd.pinned (.plain (OpenSpec.ofChange lettersPlaysSpec)) lettersPlaysCard

/-- THE TIED CARD OF 'lemmalaw09.LettersBack'. -/
def lettersBackCard : Claim7 := { stood := { row := lettersBackRow, standIns := [], harness := (true, "9f9e92eeb2326352dcea9d68dd886557313b591b79175341b602fedd3ae70b8b"), looks := false }, kinds := [], alts := [], laidByText := true, laidKinds := [.data, .pinned], laidTests := true, laidLooks := .later }
def LettersBackCardSaid : Prop := Claim7.holds Tryd.pinned (.plain (OpenSpec.ofChange lettersBackSpec)) lettersBackCard

/-- THE TIED CARD OF 'lemmalaw09.LettersTexts'. -/
def lettersTextsCard : Claim7 := { stood := { row := lettersTextsRow, standIns := [], harness := (true, "9f9e92eeb2326352dcea9d68dd886557313b591b79175341b602fedd3ae70b8b"), looks := false }, kinds := [], alts := [], laidByText := true, laidKinds := [.data, .pinned], laidTests := true, laidLooks := .later }
def LettersTextsCardSaid : Prop := Claim7.holds Tryd.pinned (.plain (OpenSpec.ofChange lettersTextsSpec)) lettersTextsCard

/-- THE TIED CARD OF 'lemmalaw09.LettersMemory'. -/
def lettersMemoryCard : Claim7 := { stood := { row := lettersMemoryRow, standIns := [], harness := (true, "9f9e92eeb2326352dcea9d68dd886557313b591b79175341b602fedd3ae70b8b"), looks := false }, kinds := [], alts := [], laidByText := true, laidKinds := [.data, .pinned], laidTests := true, laidLooks := .later }
def LettersMemoryCardSaid : Prop := Claim7.holds Tryd.pinned (.plain (OpenSpec.ofChange lettersMemorySpec)) lettersMemoryCard

/-- THE TIED CARD OF 'lemmalaw10.ProofSplits'. -/
def proofSplitsCard : Claim7 := { stood := { row := proofSplitsRow, standIns := [], harness := (true, "9f9e92eeb2326352dcea9d68dd886557313b591b79175341b602fedd3ae70b8b"), looks := false }, kinds := [], alts := [], laidByText := true, laidKinds := [.data, .pinned], laidTests := true, laidLooks := .later }
def ProofSplitsCardSaid : Prop := Claim7.holds Tryd.pinned (.plain (OpenSpec.ofChange proofSplitsSpec)) proofSplitsCard

/-- THE TIED CARD OF 'lemmalaw10.ProofBack'. -/
def proofBackCard : Claim7 := { stood := { row := proofBackRow, standIns := [], harness := (true, "9f9e92eeb2326352dcea9d68dd886557313b591b79175341b602fedd3ae70b8b"), looks := false }, kinds := [], alts := [], laidByText := true, laidKinds := [.data, .data, .pinned], laidTests := true, laidLooks := .later }
def ProofBackCardSaid : Prop := Claim7.holds Tryd.pinned (.plain (OpenSpec.ofChange proofBackSpec)) proofBackCard

/-- THE SECOND FORM's CARD OF 'lemmalaw10.ProofParses'. -/
def proofParsesUptoCard : Claim7 := { stood := { row := proofParsesUptoRow, standIns := [], harness := (true, "9f9e92eeb2326352dcea9d68dd886557313b591b79175341b602fedd3ae70b8b"), looks := false }, kinds := [], alts := [], laidByText := true, laidKinds := [.data, .data, .pinned], laidTests := true, laidLooks := .later }
def ProofParsesUptoCardSaid : Prop := Claim7.holds Tryd.pinned (.plain (OpenSpec.upto proofParsesSpec)) proofParsesUptoCard

/-- THE SECOND FORM's CARD OF 'lemmalaw10.ProofKeeps'. -/
def proofKeepsUptoCard : Claim7 := { stood := { row := proofKeepsUptoRow, standIns := [], harness := (true, "9f9e92eeb2326352dcea9d68dd886557313b591b79175341b602fedd3ae70b8b"), looks := false }, kinds := [], alts := [], laidByText := true, laidKinds := [.data, .data, .pinned], laidTests := true, laidLooks := .later }
def ProofKeepsUptoCardSaid : Prop := Claim7.holds Tryd.pinned (.plain (OpenSpec.upto proofKeepsSpec)) proofKeepsUptoCard

/-- THE SECOND FORM's CARD OF 'lemmalaw09.LettersForms'. -/
def lettersFormsUptoCard : Claim7 := { stood := { row := lettersFormsUptoRow, standIns := [], harness := (true, "9f9e92eeb2326352dcea9d68dd886557313b591b79175341b602fedd3ae70b8b"), looks := false }, kinds := [], alts := [], laidByText := true, laidKinds := [.data, .pinned], laidTests := true, laidLooks := .later }
def LettersFormsUptoCardSaid : Prop := Claim7.holds Tryd.pinned (.plain (OpenSpec.upto lettersFormsSpec)) lettersFormsUptoCard

/-- THE SECOND FORM's CARD OF 'lemmalaw09.LettersLong'. -/
def lettersLongUptoCard : Claim7 := { stood := { row := lettersLongUptoRow, standIns := [], harness := (true, "9f9e92eeb2326352dcea9d68dd886557313b591b79175341b602fedd3ae70b8b"), looks := false }, kinds := [], alts := [], laidByText := true, laidKinds := [.data, .pinned], laidTests := true, laidLooks := .later }
def LettersLongUptoCardSaid : Prop := Claim7.holds Tryd.pinned (.plain (OpenSpec.upto lettersLongSpec)) lettersLongUptoCard

/-- THE SECOND FORM's CARD OF 'lemmalaw09.LettersPlays'. -/
def lettersPlaysUptoCard : Claim7 := { stood := { row := lettersPlaysUptoRow, standIns := [], harness := (true, "9f9e92eeb2326352dcea9d68dd886557313b591b79175341b602fedd3ae70b8b"), looks := false }, kinds := [], alts := [], laidByText := true, laidKinds := [.data, .pinned], laidTests := true, laidLooks := .later }
def LettersPlaysUptoCardSaid : Prop := Claim7.holds Tryd.pinned (.plain (OpenSpec.upto lettersPlaysSpec)) lettersPlaysUptoCard

/-- THE SECOND FORM's CARD OF 'lemmalaw09.LettersBack'. -/
def lettersBackUptoCard : Claim7 := { stood := { row := lettersBackUptoRow, standIns := [], harness := (true, "9f9e92eeb2326352dcea9d68dd886557313b591b79175341b602fedd3ae70b8b"), looks := false }, kinds := [], alts := [], laidByText := true, laidKinds := [.data, .pinned], laidTests := true, laidLooks := .later }
def LettersBackUptoCardSaid : Prop := Claim7.holds Tryd.pinned (.plain (OpenSpec.upto lettersBackSpec)) lettersBackUptoCard

/-- THE SECOND FORM's CARD OF 'lemmalaw09.LettersTexts'. -/
def lettersTextsUptoCard : Claim7 := { stood := { row := lettersTextsUptoRow, standIns := [], harness := (true, "9f9e92eeb2326352dcea9d68dd886557313b591b79175341b602fedd3ae70b8b"), looks := false }, kinds := [], alts := [], laidByText := true, laidKinds := [.data, .pinned], laidTests := true, laidLooks := .later }
def LettersTextsUptoCardSaid : Prop := Claim7.holds Tryd.pinned (.plain (OpenSpec.upto lettersTextsSpec)) lettersTextsUptoCard

/-- THE SECOND FORM's CARD OF 'lemmalaw09.LettersMemory'. -/
def lettersMemoryUptoCard : Claim7 := { stood := { row := lettersMemoryUptoRow, standIns := [], harness := (true, "9f9e92eeb2326352dcea9d68dd886557313b591b79175341b602fedd3ae70b8b"), looks := false }, kinds := [], alts := [], laidByText := true, laidKinds := [.data, .pinned], laidTests := true, laidLooks := .later }
def LettersMemoryUptoCardSaid : Prop := Claim7.holds Tryd.pinned (.plain (OpenSpec.upto lettersMemorySpec)) lettersMemoryUptoCard

/-- THE SECOND FORM's CARD OF 'lemmalaw10.ProofSplits'. -/
def proofSplitsUptoCard : Claim7 := { stood := { row := proofSplitsUptoRow, standIns := [], harness := (true, "9f9e92eeb2326352dcea9d68dd886557313b591b79175341b602fedd3ae70b8b"), looks := false }, kinds := [], alts := [], laidByText := true, laidKinds := [.data, .pinned], laidTests := true, laidLooks := .later }
def ProofSplitsUptoCardSaid : Prop := Claim7.holds Tryd.pinned (.plain (OpenSpec.upto proofSplitsSpec)) proofSplitsUptoCard

/-- THE SECOND FORM's CARD OF 'lemmalaw10.ProofBack'. -/
def proofBackUptoCard : Claim7 := { stood := { row := proofBackUptoRow, standIns := [], harness := (true, "9f9e92eeb2326352dcea9d68dd886557313b591b79175341b602fedd3ae70b8b"), looks := false }, kinds := [], alts := [], laidByText := true, laidKinds := [.data, .data, .pinned], laidTests := true, laidLooks := .later }
def ProofBackUptoCardSaid : Prop := Claim7.holds Tryd.pinned (.plain (OpenSpec.upto proofBackSpec)) proofBackUptoCard
end Rows
end Go.Proofs.YtgjmcdfmmcnmcaaDoor
