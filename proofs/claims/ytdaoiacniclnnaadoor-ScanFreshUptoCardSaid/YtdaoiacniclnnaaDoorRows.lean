/-
  NARROWER THAN 'FOR EVERY INPUT', by the rows' own cells (each row's printed sentence says how): StmtPrints: laid · ScanAsks: laid · ScanWords: laid · ScanTokens: laid · ScanSpread: laid · ScanFirst: laid · ScanLimits: laid · ScanFresh: laid · StmtReads: laid · StmtPlaces: laid · StmtKeeps: laid · StmtBack: laid · StmtParted: laid · StmtFaults: laid.
  DERIVED. THE GIVEN ROWS OF THIS SEAT. 14 by the template 'for every input the law returns true; each argument reads behind the call as it read before'; 0 by the template 'total and deterministic' (their statements: YtdaoiacniclnnaaDoorTotals.lean).
  GIVEN WITH THE SEED: the statements are not yours to turn. If you find one false, say at which input.
  Laid BY PROGRAM, IN A SANDBOX (cutbox-rows.mjs): the forced cells as the released guide's own fill.sh prints them over the translation e6cd248cc742fd69… (all of the seat's roots in one cut). By AI agents, Wed Nov 11 2026. No macro, syntax, notation, axiom, sorry.
-/
import Derived.Test.YtdaoiacniclnnaaDoorChecked
import GoSem.Claim
import GoSem.ClaimJoined
import GoSem.ClaimMapViews
import Derived.JoinedTies
import Derived.KernelRfl
namespace Go.Proofs.YtdaoiacniclnnaaDoor
/- THE CELL 'sum', in the pinned program and in every row, IS THE sha256 OF THE DUMP (.gsa) THAT YtdaoiacniclnnaaDoorProg.lean LOADS. Nothing in Lean hashes anything: it is a label: what it is worth is what the hold of that sum in a sandbox is worth. -/
noncomputable def Tryd.pinned : Pinned := { name := "ytdaoiacniclnnaadoor", sum := "e6cd248cc742fd694947817a57edfd872225ee91a8e380369e6588d29f687802", checked := Tryd.checked }
namespace Rows
def none {H : Type} : Left H := { results := [], args := [] }

/- WHAT THE LISTED PACKAGE-LEVEL VARIABLES READ AS WHEN THE CALL BEGINS. Each datum BY PROGRAM (the guide's laid-datum.mjs) off the statement by which the dump's own 'gosem.cut.vars' lays the variable. In a bare row this is a premise. The card (YtdaoiacniclnnaaDoorCards.lean) ties it to the program's text. -/
def laid_lemma_lemmalaw06_room {H : Type} : DataW H := .agg [.lit (.string [114, 111, 111, 109]), .agg [.lit (.int .i64 0), .lit (.int .i64 0), .lit (.int .i64 0)]]
def laid_lemma_scan_blanks {H : Type} : DataW H := .agg [.lit (.bool false), .lit (.bool false), .lit (.bool false), .lit (.bool false), .lit (.bool false), .lit (.bool false), .lit (.bool false), .lit (.bool false), .lit (.bool false), .lit (.bool true), .lit (.bool true), .lit (.bool false), .lit (.bool true), .lit (.bool true), .lit (.bool false), .lit (.bool false), .lit (.bool false), .lit (.bool false), .lit (.bool false), .lit (.bool false), .lit (.bool false), .lit (.bool false), .lit (.bool false), .lit (.bool false), .lit (.bool false), .lit (.bool false), .lit (.bool false), .lit (.bool false), .lit (.bool false), .lit (.bool false), .lit (.bool false), .lit (.bool false), .lit (.bool true)]

/-- 'lemmalaw06.StmtPrints': WHATEVER THE INPUT: true; the input reads as it did. -/
def stmtPrintsSpec : ChangeSpec := { name := "stmtPrints", fn := fun _ => fun
  | [d] => { results := [.lit (.bool true)], args := [d] }
  | _ => none }
def stmtPrintsRow : OpenClaim := { program := "ytdaoiacniclnnaadoor", sum := "e6cd248cc742fd694947817a57edfd872225ee91a8e380369e6588d29f687802", func := "lemma/lemmalaw06.StmtPrints", spec := "stmtPrints", inPlace := ["internal/abi.NoEscape"], unfollowed := true, recurses := true, named := ["lemma/lemmalaw06.room"], apart := false, laid := [("lemma/lemmalaw06.room", laid_lemma_lemmalaw06_room)] }
def StmtPrintsSaid : Prop := stmtPrintsRow.holds Tryd.pinned (OpenSpec.ofChange stmtPrintsSpec)

/-- ITS FALSE NEIGHBOUR: 'it returns false'. Refute it at one input. -/
def stmtPrintsWrong : ChangeSpec := { name := "stmtPrints", fn := fun _ => fun
  | [d] => { results := [.lit (.bool false)], args := [d] }
  | _ => none }
def StmtPrintsWrongFalsely : Prop := stmtPrintsRow.holds Tryd.pinned (OpenSpec.ofChange stmtPrintsWrong)

/-- 'lemmalaw01.ScanAsks': WHATEVER THE INPUT: true; the input reads as it did. -/
def scanAsksSpec : ChangeSpec := { name := "scanAsks", fn := fun _ => fun
  | [d1, d2] => { results := [.lit (.bool true)], args := [d1, d2] }
  | _ => none }
def scanAsksRow : OpenClaim := { program := "ytdaoiacniclnnaadoor", sum := "e6cd248cc742fd694947817a57edfd872225ee91a8e380369e6588d29f687802", func := "lemma/lemmalaw01.ScanAsks", spec := "scanAsks", inPlace := ["internal/bytealg.CountString", "internal/bytealg.IndexByteString", "internal/bytealg.IndexString"], named := ["lemma/scan.blanks", "internal/bytealg.MaxLen"], apart := false, laid := [("lemma/scan.blanks", laid_lemma_scan_blanks)] }
def ScanAsksSaid : Prop := scanAsksRow.holds Tryd.pinned (OpenSpec.ofChange scanAsksSpec)

/-- ITS FALSE NEIGHBOUR: 'it returns false'. Refute it at one input. -/
def scanAsksWrong : ChangeSpec := { name := "scanAsks", fn := fun _ => fun
  | [d1, d2] => { results := [.lit (.bool false)], args := [d1, d2] }
  | _ => none }
def ScanAsksWrongFalsely : Prop := scanAsksRow.holds Tryd.pinned (OpenSpec.ofChange scanAsksWrong)

/-- 'lemmalaw01.ScanWords': WHATEVER THE INPUT: true; the input reads as it did. -/
def scanWordsSpec : ChangeSpec := { name := "scanWords", fn := fun _ => fun
  | [d] => { results := [.lit (.bool true)], args := [d] }
  | _ => none }
def scanWordsRow : OpenClaim := { program := "ytdaoiacniclnnaadoor", sum := "e6cd248cc742fd694947817a57edfd872225ee91a8e380369e6588d29f687802", func := "lemma/lemmalaw01.ScanWords", spec := "scanWords", inPlace := ["internal/bytealg.IndexByteString", "internal/bytealg.IndexString"], unfollowed := true, recurses := true, named := ["lemma/scan.blanks", "internal/bytealg.MaxLen"], apart := false, laid := [("lemma/scan.blanks", laid_lemma_scan_blanks)] }
def ScanWordsSaid : Prop := scanWordsRow.holds Tryd.pinned (OpenSpec.ofChange scanWordsSpec)

/-- ITS FALSE NEIGHBOUR: 'it returns false'. Refute it at one input. -/
def scanWordsWrong : ChangeSpec := { name := "scanWords", fn := fun _ => fun
  | [d] => { results := [.lit (.bool false)], args := [d] }
  | _ => none }
def ScanWordsWrongFalsely : Prop := scanWordsRow.holds Tryd.pinned (OpenSpec.ofChange scanWordsWrong)

/-- 'lemmalaw01.ScanTokens': WHATEVER THE INPUT: true; the input reads as it did. -/
def scanTokensSpec : ChangeSpec := { name := "scanTokens", fn := fun _ => fun
  | [d] => { results := [.lit (.bool true)], args := [d] }
  | _ => none }
def scanTokensRow : OpenClaim := { program := "ytdaoiacniclnnaadoor", sum := "e6cd248cc742fd694947817a57edfd872225ee91a8e380369e6588d29f687802", func := "lemma/lemmalaw01.ScanTokens", spec := "scanTokens", inPlace := ["internal/bytealg.IndexByteString", "internal/bytealg.IndexString"], unfollowed := true, recurses := true, named := ["lemma/scan.blanks", "internal/bytealg.MaxLen"], apart := false, laid := [("lemma/scan.blanks", laid_lemma_scan_blanks)] }
def ScanTokensSaid : Prop := scanTokensRow.holds Tryd.pinned (OpenSpec.ofChange scanTokensSpec)

/-- ITS FALSE NEIGHBOUR: 'it returns false'. Refute it at one input. -/
def scanTokensWrong : ChangeSpec := { name := "scanTokens", fn := fun _ => fun
  | [d] => { results := [.lit (.bool false)], args := [d] }
  | _ => none }
def ScanTokensWrongFalsely : Prop := scanTokensRow.holds Tryd.pinned (OpenSpec.ofChange scanTokensWrong)

/-- 'lemmalaw01.ScanSpread': WHATEVER THE INPUT: true; the input reads as it did. -/
def scanSpreadSpec : ChangeSpec := { name := "scanSpread", fn := fun _ => fun
  | [d1, d2] => { results := [.lit (.bool true)], args := [d1, d2] }
  | _ => none }
def scanSpreadRow : OpenClaim := { program := "ytdaoiacniclnnaadoor", sum := "e6cd248cc742fd694947817a57edfd872225ee91a8e380369e6588d29f687802", func := "lemma/lemmalaw01.ScanSpread", spec := "scanSpread", inPlace := ["internal/bytealg.IndexByteString", "internal/bytealg.IndexString"], unfollowed := true, recurses := true, named := ["lemma/scan.blanks", "internal/bytealg.MaxLen"], apart := false, laid := [("lemma/scan.blanks", laid_lemma_scan_blanks)] }
def ScanSpreadSaid : Prop := scanSpreadRow.holds Tryd.pinned (OpenSpec.ofChange scanSpreadSpec)

/-- ITS FALSE NEIGHBOUR: 'it returns false'. Refute it at one input. -/
def scanSpreadWrong : ChangeSpec := { name := "scanSpread", fn := fun _ => fun
  | [d1, d2] => { results := [.lit (.bool false)], args := [d1, d2] }
  | _ => none }
def ScanSpreadWrongFalsely : Prop := scanSpreadRow.holds Tryd.pinned (OpenSpec.ofChange scanSpreadWrong)

/-- 'lemmalaw01.ScanFirst': WHATEVER THE INPUT: true; the input reads as it did. -/
def scanFirstSpec : ChangeSpec := { name := "scanFirst", fn := fun _ => fun
  | [d1, d2] => { results := [.lit (.bool true)], args := [d1, d2] }
  | _ => none }
def scanFirstRow : OpenClaim := { program := "ytdaoiacniclnnaadoor", sum := "e6cd248cc742fd694947817a57edfd872225ee91a8e380369e6588d29f687802", func := "lemma/lemmalaw01.ScanFirst", spec := "scanFirst", inPlace := ["internal/bytealg.IndexByteString", "internal/bytealg.IndexString"], unfollowed := true, recurses := true, named := ["lemma/scan.blanks", "internal/bytealg.MaxLen"], apart := false, laid := [("lemma/scan.blanks", laid_lemma_scan_blanks)] }
def ScanFirstSaid : Prop := scanFirstRow.holds Tryd.pinned (OpenSpec.ofChange scanFirstSpec)

/-- ITS FALSE NEIGHBOUR: 'it returns false'. Refute it at one input. -/
def scanFirstWrong : ChangeSpec := { name := "scanFirst", fn := fun _ => fun
  | [d1, d2] => { results := [.lit (.bool false)], args := [d1, d2] }
  | _ => none }
def ScanFirstWrongFalsely : Prop := scanFirstRow.holds Tryd.pinned (OpenSpec.ofChange scanFirstWrong)

/-- 'lemmalaw01.ScanLimits': WHATEVER THE INPUT: true; the input reads as it did. -/
def scanLimitsSpec : ChangeSpec := { name := "scanLimits", fn := fun _ => fun
  | [d1, d2] => { results := [.lit (.bool true)], args := [d1, d2] }
  | _ => none }
def scanLimitsRow : OpenClaim := { program := "ytdaoiacniclnnaadoor", sum := "e6cd248cc742fd694947817a57edfd872225ee91a8e380369e6588d29f687802", func := "lemma/lemmalaw01.ScanLimits", spec := "scanLimits", inPlace := ["internal/bytealg.IndexByteString", "internal/bytealg.IndexString"], unfollowed := true, recurses := true, named := ["lemma/scan.blanks", "internal/bytealg.MaxLen"], apart := false, laid := [("lemma/scan.blanks", laid_lemma_scan_blanks)] }
def ScanLimitsSaid : Prop := scanLimitsRow.holds Tryd.pinned (OpenSpec.ofChange scanLimitsSpec)

/-- ITS FALSE NEIGHBOUR: 'it returns false'. Refute it at one input. -/
def scanLimitsWrong : ChangeSpec := { name := "scanLimits", fn := fun _ => fun
  | [d1, d2] => { results := [.lit (.bool false)], args := [d1, d2] }
  | _ => none }
def ScanLimitsWrongFalsely : Prop := scanLimitsRow.holds Tryd.pinned (OpenSpec.ofChange scanLimitsWrong)

/-- 'lemmalaw01.ScanFresh': WHATEVER THE INPUT: true; the input reads as it did. -/
def scanFreshSpec : ChangeSpec := { name := "scanFresh", fn := fun _ => fun
  | [d1, d2] => { results := [.lit (.bool true)], args := [d1, d2] }
  | _ => none }
def scanFreshRow : OpenClaim := { program := "ytdaoiacniclnnaadoor", sum := "e6cd248cc742fd694947817a57edfd872225ee91a8e380369e6588d29f687802", func := "lemma/lemmalaw01.ScanFresh", spec := "scanFresh", inPlace := ["internal/bytealg.IndexByteString", "internal/bytealg.IndexString"], unfollowed := true, recurses := true, named := ["lemma/scan.blanks", "internal/bytealg.MaxLen"], apart := false, laid := [("lemma/scan.blanks", laid_lemma_scan_blanks)] }
def ScanFreshSaid : Prop := scanFreshRow.holds Tryd.pinned (OpenSpec.ofChange scanFreshSpec)

/-- ITS FALSE NEIGHBOUR: 'it returns false'. Refute it at one input. -/
def scanFreshWrong : ChangeSpec := { name := "scanFresh", fn := fun _ => fun
  | [d1, d2] => { results := [.lit (.bool false)], args := [d1, d2] }
  | _ => none }
def ScanFreshWrongFalsely : Prop := scanFreshRow.holds Tryd.pinned (OpenSpec.ofChange scanFreshWrong)

/-- 'lemmalaw06.StmtReads': WHATEVER THE INPUT: true; the input reads as it did. -/
def stmtReadsSpec : ChangeSpec := { name := "stmtReads", fn := fun _ => fun
  | [d] => { results := [.lit (.bool true)], args := [d] }
  | _ => none }
def stmtReadsRow : OpenClaim := { program := "ytdaoiacniclnnaadoor", sum := "e6cd248cc742fd694947817a57edfd872225ee91a8e380369e6588d29f687802", func := "lemma/lemmalaw06.StmtReads", spec := "stmtReads", inPlace := ["internal/bytealg.IndexByteString", "internal/bytealg.IndexString", "internal/bytealg.CountString"], unfollowed := true, recurses := true, named := ["lemma/scan.blanks", "internal/bytealg.MaxLen"], apart := false, laid := [("lemma/scan.blanks", laid_lemma_scan_blanks)] }
def StmtReadsSaid : Prop := stmtReadsRow.holds Tryd.pinned (OpenSpec.ofChange stmtReadsSpec)

/-- ITS FALSE NEIGHBOUR: 'it returns false'. Refute it at one input. -/
def stmtReadsWrong : ChangeSpec := { name := "stmtReads", fn := fun _ => fun
  | [d] => { results := [.lit (.bool false)], args := [d] }
  | _ => none }
def StmtReadsWrongFalsely : Prop := stmtReadsRow.holds Tryd.pinned (OpenSpec.ofChange stmtReadsWrong)

/-- 'lemmalaw06.StmtPlaces': WHATEVER THE INPUT: true; the input reads as it did. -/
def stmtPlacesSpec : ChangeSpec := { name := "stmtPlaces", fn := fun _ => fun
  | [d] => { results := [.lit (.bool true)], args := [d] }
  | _ => none }
def stmtPlacesRow : OpenClaim := { program := "ytdaoiacniclnnaadoor", sum := "e6cd248cc742fd694947817a57edfd872225ee91a8e380369e6588d29f687802", func := "lemma/lemmalaw06.StmtPlaces", spec := "stmtPlaces", inPlace := ["internal/bytealg.IndexByteString", "internal/bytealg.IndexString", "internal/bytealg.CountString"], unfollowed := true, recurses := true, named := ["lemma/scan.blanks", "internal/bytealg.MaxLen"], apart := false, laid := [("lemma/scan.blanks", laid_lemma_scan_blanks)] }
def StmtPlacesSaid : Prop := stmtPlacesRow.holds Tryd.pinned (OpenSpec.ofChange stmtPlacesSpec)

/-- ITS FALSE NEIGHBOUR: 'it returns false'. Refute it at one input. -/
def stmtPlacesWrong : ChangeSpec := { name := "stmtPlaces", fn := fun _ => fun
  | [d] => { results := [.lit (.bool false)], args := [d] }
  | _ => none }
def StmtPlacesWrongFalsely : Prop := stmtPlacesRow.holds Tryd.pinned (OpenSpec.ofChange stmtPlacesWrong)

/-- 'lemmalaw06.StmtKeeps': WHATEVER THE INPUT: true; the input reads as it did. -/
def stmtKeepsSpec : ChangeSpec := { name := "stmtKeeps", fn := fun _ => fun
  | [d1, d2] => { results := [.lit (.bool true)], args := [d1, d2] }
  | _ => none }
def stmtKeepsRow : OpenClaim := { program := "ytdaoiacniclnnaadoor", sum := "e6cd248cc742fd694947817a57edfd872225ee91a8e380369e6588d29f687802", func := "lemma/lemmalaw06.StmtKeeps", spec := "stmtKeeps", inPlace := ["internal/bytealg.IndexByteString", "internal/bytealg.IndexString", "internal/bytealg.CountString"], unfollowed := true, recurses := true, named := ["lemma/scan.blanks", "internal/bytealg.MaxLen"], apart := false, laid := [("lemma/scan.blanks", laid_lemma_scan_blanks)] }
def StmtKeepsSaid : Prop := stmtKeepsRow.holds Tryd.pinned (OpenSpec.ofChange stmtKeepsSpec)

/-- ITS FALSE NEIGHBOUR: 'it returns false'. Refute it at one input. -/
def stmtKeepsWrong : ChangeSpec := { name := "stmtKeeps", fn := fun _ => fun
  | [d1, d2] => { results := [.lit (.bool false)], args := [d1, d2] }
  | _ => none }
def StmtKeepsWrongFalsely : Prop := stmtKeepsRow.holds Tryd.pinned (OpenSpec.ofChange stmtKeepsWrong)

/-- 'lemmalaw06.StmtBack': WHATEVER THE INPUT: true; the input reads as it did. -/
def stmtBackSpec : ChangeSpec := { name := "stmtBack", fn := fun _ => fun
  | [d1, d2] => { results := [.lit (.bool true)], args := [d1, d2] }
  | _ => none }
def stmtBackRow : OpenClaim := { program := "ytdaoiacniclnnaadoor", sum := "e6cd248cc742fd694947817a57edfd872225ee91a8e380369e6588d29f687802", func := "lemma/lemmalaw06.StmtBack", spec := "stmtBack", inPlace := ["internal/abi.NoEscape", "internal/bytealg.IndexByteString", "internal/bytealg.IndexString", "internal/bytealg.CountString"], unfollowed := true, recurses := true, named := ["lemma/scan.blanks", "internal/bytealg.MaxLen"], apart := false, laid := [("lemma/scan.blanks", laid_lemma_scan_blanks)] }
def StmtBackSaid : Prop := stmtBackRow.holds Tryd.pinned (OpenSpec.ofChange stmtBackSpec)

/-- ITS FALSE NEIGHBOUR: 'it returns false'. Refute it at one input. -/
def stmtBackWrong : ChangeSpec := { name := "stmtBack", fn := fun _ => fun
  | [d1, d2] => { results := [.lit (.bool false)], args := [d1, d2] }
  | _ => none }
def StmtBackWrongFalsely : Prop := stmtBackRow.holds Tryd.pinned (OpenSpec.ofChange stmtBackWrong)

/-- 'lemmalaw06.StmtParted': WHATEVER THE INPUT: true; the input reads as it did. -/
def stmtPartedSpec : ChangeSpec := { name := "stmtParted", fn := fun _ => fun
  | [d1, d2, d3] => { results := [.lit (.bool true)], args := [d1, d2, d3] }
  | _ => none }
def stmtPartedRow : OpenClaim := { program := "ytdaoiacniclnnaadoor", sum := "e6cd248cc742fd694947817a57edfd872225ee91a8e380369e6588d29f687802", func := "lemma/lemmalaw06.StmtParted", spec := "stmtParted", inPlace := ["internal/abi.NoEscape", "internal/bytealg.IndexByteString", "internal/bytealg.IndexString", "internal/bytealg.CountString"], unfollowed := true, recurses := true, named := ["lemma/scan.blanks", "internal/bytealg.MaxLen"], apart := false, laid := [("lemma/scan.blanks", laid_lemma_scan_blanks)] }
def StmtPartedSaid : Prop := stmtPartedRow.holds Tryd.pinned (OpenSpec.ofChange stmtPartedSpec)

/-- ITS FALSE NEIGHBOUR: 'it returns false'. Refute it at one input. -/
def stmtPartedWrong : ChangeSpec := { name := "stmtParted", fn := fun _ => fun
  | [d1, d2, d3] => { results := [.lit (.bool false)], args := [d1, d2, d3] }
  | _ => none }
def StmtPartedWrongFalsely : Prop := stmtPartedRow.holds Tryd.pinned (OpenSpec.ofChange stmtPartedWrong)

/-- 'lemmalaw06.StmtFaults': WHATEVER THE INPUT: true; the input reads as it did. -/
def stmtFaultsSpec : ChangeSpec := { name := "stmtFaults", fn := fun _ => fun
  | [d1, d2, d3] => { results := [.lit (.bool true)], args := [d1, d2, d3] }
  | _ => none }
def stmtFaultsRow : OpenClaim := { program := "ytdaoiacniclnnaadoor", sum := "e6cd248cc742fd694947817a57edfd872225ee91a8e380369e6588d29f687802", func := "lemma/lemmalaw06.StmtFaults", spec := "stmtFaults", inPlace := ["internal/abi.NoEscape", "internal/bytealg.IndexByteString", "internal/bytealg.IndexString", "internal/bytealg.CountString"], unfollowed := true, recurses := true, named := ["lemma/scan.blanks", "internal/bytealg.MaxLen"], apart := false, laid := [("lemma/scan.blanks", laid_lemma_scan_blanks)] }
def StmtFaultsSaid : Prop := stmtFaultsRow.holds Tryd.pinned (OpenSpec.ofChange stmtFaultsSpec)

/-- ITS FALSE NEIGHBOUR: 'it returns false'. Refute it at one input. -/
def stmtFaultsWrong : ChangeSpec := { name := "stmtFaults", fn := fun _ => fun
  | [d1, d2, d3] => { results := [.lit (.bool false)], args := [d1, d2, d3] }
  | _ => none }
def StmtFaultsWrongFalsely : Prop := stmtFaultsRow.holds Tryd.pinned (OpenSpec.ofChange stmtFaultsWrong)

/- THE SECOND FORM. 'bulk': how many values and letters a reading holds, each counted each time it is reached (what is shared counts as often as it is met; a slice's spare places count too). A statement '..UptoSaid' is the law's where the arguments, and the package variables that the reading takes, are together of bulk at most 1048576: NARROWER than '..Said'. Prove '..Said' where nothing that the law and all that it calls make is longer than what came in: it says more and counts as full. Else prove '..UptoSaid'. A law counts once. -/
mutual
def uptoBulk {H : Type} : DataW H → Nat
  | .lit (.string bytes) => bytes.length + 1
  | .lit _ => 1
  | .nil => 1
  | .ptr d => uptoBulk d + 1
  | .slice elems spare => uptoBulkAll elems + uptoBulkAll spare + 1
  | .agg parts => uptoBulkAll parts + 1
  | .iface _ d => uptoBulk d + 1
  | .map entries => uptoBulkEntries entries + 1
  | .held _ => 1
def uptoBulkAll {H : Type} : List (DataW H) → Nat
  | [] => 0
  | d :: r => uptoBulk d + uptoBulkAll r
def uptoBulkEntries {H : Type} : List (Lit × DataW H) → Nat
  | [] => 0
  | x :: r => uptoBulkEntry x + uptoBulkEntries r
def uptoBulkEntry {H : Type} : Lit × DataW H → Nat
  | (.string bytes, d) => bytes.length + uptoBulk d + 1
  | (_, d) => uptoBulk d + 1
 end
def uptoSmall : (H : Type) → List (DataW H) → Bool := fun _ ds => decide (uptoBulkAll ds ≤ 1048576)
def OpenSpec.upto (s : _root_.Go.ChangeSpec) : _root_.Go.OpenSpec := { _root_.Go.OpenSpec.ofChange s with cond := some uptoSmall }

/-- 'lemmalaw06.StmtPrints', WHERE WHAT IT READS IS OF BULK AT MOST 1048576: true; the input reads as it did. -/
def stmtPrintsUptoRow : OpenClaim := { program := "ytdaoiacniclnnaadoor", sum := "e6cd248cc742fd694947817a57edfd872225ee91a8e380369e6588d29f687802", func := "lemma/lemmalaw06.StmtPrints", spec := "stmtPrints", inPlace := ["internal/abi.NoEscape"], unfollowed := true, recurses := true, named := ["lemma/lemmalaw06.room"], apart := false, laid := [("lemma/lemmalaw06.room", laid_lemma_lemmalaw06_room)], narrowed := true }
def StmtPrintsUptoSaid : Prop := stmtPrintsUptoRow.holds Tryd.pinned (OpenSpec.upto stmtPrintsSpec)

/-- 'lemmalaw01.ScanAsks', WHERE WHAT IT READS IS OF BULK AT MOST 1048576: true; the input reads as it did. -/
def scanAsksUptoRow : OpenClaim := { program := "ytdaoiacniclnnaadoor", sum := "e6cd248cc742fd694947817a57edfd872225ee91a8e380369e6588d29f687802", func := "lemma/lemmalaw01.ScanAsks", spec := "scanAsks", inPlace := ["internal/bytealg.CountString", "internal/bytealg.IndexByteString", "internal/bytealg.IndexString"], named := ["lemma/scan.blanks", "internal/bytealg.MaxLen"], apart := false, laid := [("lemma/scan.blanks", laid_lemma_scan_blanks)], narrowed := true }
def ScanAsksUptoSaid : Prop := scanAsksUptoRow.holds Tryd.pinned (OpenSpec.upto scanAsksSpec)

/-- 'lemmalaw01.ScanWords', WHERE WHAT IT READS IS OF BULK AT MOST 1048576: true; the input reads as it did. -/
def scanWordsUptoRow : OpenClaim := { program := "ytdaoiacniclnnaadoor", sum := "e6cd248cc742fd694947817a57edfd872225ee91a8e380369e6588d29f687802", func := "lemma/lemmalaw01.ScanWords", spec := "scanWords", inPlace := ["internal/bytealg.IndexByteString", "internal/bytealg.IndexString"], unfollowed := true, recurses := true, named := ["lemma/scan.blanks", "internal/bytealg.MaxLen"], apart := false, laid := [("lemma/scan.blanks", laid_lemma_scan_blanks)], narrowed := true }
def ScanWordsUptoSaid : Prop := scanWordsUptoRow.holds Tryd.pinned (OpenSpec.upto scanWordsSpec)

/-- 'lemmalaw01.ScanTokens', WHERE WHAT IT READS IS OF BULK AT MOST 1048576: true; the input reads as it did. -/
def scanTokensUptoRow : OpenClaim := { program := "ytdaoiacniclnnaadoor", sum := "e6cd248cc742fd694947817a57edfd872225ee91a8e380369e6588d29f687802", func := "lemma/lemmalaw01.ScanTokens", spec := "scanTokens", inPlace := ["internal/bytealg.IndexByteString", "internal/bytealg.IndexString"], unfollowed := true, recurses := true, named := ["lemma/scan.blanks", "internal/bytealg.MaxLen"], apart := false, laid := [("lemma/scan.blanks", laid_lemma_scan_blanks)], narrowed := true }
def ScanTokensUptoSaid : Prop := scanTokensUptoRow.holds Tryd.pinned (OpenSpec.upto scanTokensSpec)

/-- 'lemmalaw01.ScanSpread', WHERE WHAT IT READS IS OF BULK AT MOST 1048576: true; the input reads as it did. -/
def scanSpreadUptoRow : OpenClaim := { program := "ytdaoiacniclnnaadoor", sum := "e6cd248cc742fd694947817a57edfd872225ee91a8e380369e6588d29f687802", func := "lemma/lemmalaw01.ScanSpread", spec := "scanSpread", inPlace := ["internal/bytealg.IndexByteString", "internal/bytealg.IndexString"], unfollowed := true, recurses := true, named := ["lemma/scan.blanks", "internal/bytealg.MaxLen"], apart := false, laid := [("lemma/scan.blanks", laid_lemma_scan_blanks)], narrowed := true }
def ScanSpreadUptoSaid : Prop := scanSpreadUptoRow.holds Tryd.pinned (OpenSpec.upto scanSpreadSpec)

/-- 'lemmalaw01.ScanFirst', WHERE WHAT IT READS IS OF BULK AT MOST 1048576: true; the input reads as it did. -/
def scanFirstUptoRow : OpenClaim := { program := "ytdaoiacniclnnaadoor", sum := "e6cd248cc742fd694947817a57edfd872225ee91a8e380369e6588d29f687802", func := "lemma/lemmalaw01.ScanFirst", spec := "scanFirst", inPlace := ["internal/bytealg.IndexByteString", "internal/bytealg.IndexString"], unfollowed := true, recurses := true, named := ["lemma/scan.blanks", "internal/bytealg.MaxLen"], apart := false, laid := [("lemma/scan.blanks", laid_lemma_scan_blanks)], narrowed := true }
def ScanFirstUptoSaid : Prop := scanFirstUptoRow.holds Tryd.pinned (OpenSpec.upto scanFirstSpec)

/-- 'lemmalaw01.ScanLimits', WHERE WHAT IT READS IS OF BULK AT MOST 1048576: true; the input reads as it did. -/
def scanLimitsUptoRow : OpenClaim := { program := "ytdaoiacniclnnaadoor", sum := "e6cd248cc742fd694947817a57edfd872225ee91a8e380369e6588d29f687802", func := "lemma/lemmalaw01.ScanLimits", spec := "scanLimits", inPlace := ["internal/bytealg.IndexByteString", "internal/bytealg.IndexString"], unfollowed := true, recurses := true, named := ["lemma/scan.blanks", "internal/bytealg.MaxLen"], apart := false, laid := [("lemma/scan.blanks", laid_lemma_scan_blanks)], narrowed := true }
def ScanLimitsUptoSaid : Prop := scanLimitsUptoRow.holds Tryd.pinned (OpenSpec.upto scanLimitsSpec)

/-- 'lemmalaw01.ScanFresh', WHERE WHAT IT READS IS OF BULK AT MOST 1048576: true; the input reads as it did. -/
def scanFreshUptoRow : OpenClaim := { program := "ytdaoiacniclnnaadoor", sum := "e6cd248cc742fd694947817a57edfd872225ee91a8e380369e6588d29f687802", func := "lemma/lemmalaw01.ScanFresh", spec := "scanFresh", inPlace := ["internal/bytealg.IndexByteString", "internal/bytealg.IndexString"], unfollowed := true, recurses := true, named := ["lemma/scan.blanks", "internal/bytealg.MaxLen"], apart := false, laid := [("lemma/scan.blanks", laid_lemma_scan_blanks)], narrowed := true }
def ScanFreshUptoSaid : Prop := scanFreshUptoRow.holds Tryd.pinned (OpenSpec.upto scanFreshSpec)

/-- 'lemmalaw06.StmtReads', WHERE WHAT IT READS IS OF BULK AT MOST 1048576: true; the input reads as it did. -/
def stmtReadsUptoRow : OpenClaim := { program := "ytdaoiacniclnnaadoor", sum := "e6cd248cc742fd694947817a57edfd872225ee91a8e380369e6588d29f687802", func := "lemma/lemmalaw06.StmtReads", spec := "stmtReads", inPlace := ["internal/bytealg.IndexByteString", "internal/bytealg.IndexString", "internal/bytealg.CountString"], unfollowed := true, recurses := true, named := ["lemma/scan.blanks", "internal/bytealg.MaxLen"], apart := false, laid := [("lemma/scan.blanks", laid_lemma_scan_blanks)], narrowed := true }
def StmtReadsUptoSaid : Prop := stmtReadsUptoRow.holds Tryd.pinned (OpenSpec.upto stmtReadsSpec)

/-- 'lemmalaw06.StmtPlaces', WHERE WHAT IT READS IS OF BULK AT MOST 1048576: true; the input reads as it did. -/
def stmtPlacesUptoRow : OpenClaim := { program := "ytdaoiacniclnnaadoor", sum := "e6cd248cc742fd694947817a57edfd872225ee91a8e380369e6588d29f687802", func := "lemma/lemmalaw06.StmtPlaces", spec := "stmtPlaces", inPlace := ["internal/bytealg.IndexByteString", "internal/bytealg.IndexString", "internal/bytealg.CountString"], unfollowed := true, recurses := true, named := ["lemma/scan.blanks", "internal/bytealg.MaxLen"], apart := false, laid := [("lemma/scan.blanks", laid_lemma_scan_blanks)], narrowed := true }
def StmtPlacesUptoSaid : Prop := stmtPlacesUptoRow.holds Tryd.pinned (OpenSpec.upto stmtPlacesSpec)

/-- 'lemmalaw06.StmtKeeps', WHERE WHAT IT READS IS OF BULK AT MOST 1048576: true; the input reads as it did. -/
def stmtKeepsUptoRow : OpenClaim := { program := "ytdaoiacniclnnaadoor", sum := "e6cd248cc742fd694947817a57edfd872225ee91a8e380369e6588d29f687802", func := "lemma/lemmalaw06.StmtKeeps", spec := "stmtKeeps", inPlace := ["internal/bytealg.IndexByteString", "internal/bytealg.IndexString", "internal/bytealg.CountString"], unfollowed := true, recurses := true, named := ["lemma/scan.blanks", "internal/bytealg.MaxLen"], apart := false, laid := [("lemma/scan.blanks", laid_lemma_scan_blanks)], narrowed := true }
def StmtKeepsUptoSaid : Prop := stmtKeepsUptoRow.holds Tryd.pinned (OpenSpec.upto stmtKeepsSpec)

/-- 'lemmalaw06.StmtBack', WHERE WHAT IT READS IS OF BULK AT MOST 1048576: true; the input reads as it did. -/
def stmtBackUptoRow : OpenClaim := { program := "ytdaoiacniclnnaadoor", sum := "e6cd248cc742fd694947817a57edfd872225ee91a8e380369e6588d29f687802", func := "lemma/lemmalaw06.StmtBack", spec := "stmtBack", inPlace := ["internal/abi.NoEscape", "internal/bytealg.IndexByteString", "internal/bytealg.IndexString", "internal/bytealg.CountString"], unfollowed := true, recurses := true, named := ["lemma/scan.blanks", "internal/bytealg.MaxLen"], apart := false, laid := [("lemma/scan.blanks", laid_lemma_scan_blanks)], narrowed := true }
def StmtBackUptoSaid : Prop := stmtBackUptoRow.holds Tryd.pinned (OpenSpec.upto stmtBackSpec)

/-- 'lemmalaw06.StmtParted', WHERE WHAT IT READS IS OF BULK AT MOST 1048576: true; the input reads as it did. -/
def stmtPartedUptoRow : OpenClaim := { program := "ytdaoiacniclnnaadoor", sum := "e6cd248cc742fd694947817a57edfd872225ee91a8e380369e6588d29f687802", func := "lemma/lemmalaw06.StmtParted", spec := "stmtParted", inPlace := ["internal/abi.NoEscape", "internal/bytealg.IndexByteString", "internal/bytealg.IndexString", "internal/bytealg.CountString"], unfollowed := true, recurses := true, named := ["lemma/scan.blanks", "internal/bytealg.MaxLen"], apart := false, laid := [("lemma/scan.blanks", laid_lemma_scan_blanks)], narrowed := true }
def StmtPartedUptoSaid : Prop := stmtPartedUptoRow.holds Tryd.pinned (OpenSpec.upto stmtPartedSpec)

/-- 'lemmalaw06.StmtFaults', WHERE WHAT IT READS IS OF BULK AT MOST 1048576: true; the input reads as it did. -/
def stmtFaultsUptoRow : OpenClaim := { program := "ytdaoiacniclnnaadoor", sum := "e6cd248cc742fd694947817a57edfd872225ee91a8e380369e6588d29f687802", func := "lemma/lemmalaw06.StmtFaults", spec := "stmtFaults", inPlace := ["internal/abi.NoEscape", "internal/bytealg.IndexByteString", "internal/bytealg.IndexString", "internal/bytealg.CountString"], unfollowed := true, recurses := true, named := ["lemma/scan.blanks", "internal/bytealg.MaxLen"], apart := false, laid := [("lemma/scan.blanks", laid_lemma_scan_blanks)], narrowed := true }
def StmtFaultsUptoSaid : Prop := stmtFaultsUptoRow.holds Tryd.pinned (OpenSpec.upto stmtFaultsSpec)

end Rows
end Go.Proofs.YtdaoiacniclnnaaDoor
