/-
  NARROWER THAN 'FOR EVERY INPUT', by the rows' own cells (each row's printed sentence says how): ProofParses: laid · ProofKeeps: laid · LettersForms: laid · LettersLong: laid · LettersPlays: laid · LettersBack: laid · LettersTexts: laid · LettersMemory: laid · ProofSplits: laid · ProofBack: laid.
  DERIVED. THE GIVEN ROWS OF THIS SEAT. 10 by the template 'for every input the law returns true; each argument reads behind the call as it read before'; 0 by the template 'total and deterministic' (their statements: YtgjmcdfmmcnmcaaDoorTotals.lean).
  GIVEN WITH THE SEED: the statements are not yours to turn. If you find one false, say at which input.
  Laid BY PROGRAM, IN A SANDBOX (cutbox-rows.mjs): the forced cells as the released guide's own fill.sh prints them over the translation 3b67ecd6679fea8d… (all of the seat's roots in one cut). By AI agents, Wed Nov 11 2026. No macro, syntax, notation, axiom, sorry.
-/
import Derived.Test.YtgjmcdfmmcnmcaaDoorChecked
import GoSem.PinnedTables
import GoSem.Claim
import GoSem.ClaimJoined
import GoSem.ClaimMapViews
import Derived.JoinedTies
import Derived.KernelRfl
namespace Go.Proofs.YtgjmcdfmmcnmcaaDoor
/- THE CELL 'sum', in the pinned program and in every row, IS THE sha256 OF THE DUMP (.gsa) THAT YtgjmcdfmmcnmcaaDoorProg.lean LOADS. Nothing in Lean hashes anything: it is a label: what it is worth is what the hold of that sum in a sandbox is worth. -/
noncomputable def Tryd.pinned : Pinned := { name := "ytgjmcdfmmcnmcaadoor", sum := "3b67ecd6679fea8dd480cdbde5504d1cb7c83f024e1179c55002e12526d7d84b", checked := Tryd.checked }
namespace Rows
def none {H : Type} : Left H := { results := [], args := [] }

/- WHAT THE LISTED PACKAGE-LEVEL VARIABLES READ AS WHEN THE CALL BEGINS. Each datum BY PROGRAM (the guide's laid-datum.mjs) off the statement by which the dump's own 'gosem.cut.vars' lays the variable. In a bare row this is a premise. The card (YtgjmcdfmmcnmcaaDoorCards.lean) ties it to the program's text. -/
def laid_unicode_utf8_acceptRanges {H : Type} : DataW H := .agg [.agg [.lit (.int .u8 128), .lit (.int .u8 191)], .agg [.lit (.int .u8 160), .lit (.int .u8 191)], .agg [.lit (.int .u8 128), .lit (.int .u8 159)], .agg [.lit (.int .u8 144), .lit (.int .u8 191)], .agg [.lit (.int .u8 128), .lit (.int .u8 143)], .agg [.lit (.int .u8 0), .lit (.int .u8 0)], .agg [.lit (.int .u8 0), .lit (.int .u8 0)], .agg [.lit (.int .u8 0), .lit (.int .u8 0)], .agg [.lit (.int .u8 0), .lit (.int .u8 0)], .agg [.lit (.int .u8 0), .lit (.int .u8 0)], .agg [.lit (.int .u8 0), .lit (.int .u8 0)], .agg [.lit (.int .u8 0), .lit (.int .u8 0)], .agg [.lit (.int .u8 0), .lit (.int .u8 0)], .agg [.lit (.int .u8 0), .lit (.int .u8 0)], .agg [.lit (.int .u8 0), .lit (.int .u8 0)], .agg [.lit (.int .u8 0), .lit (.int .u8 0)]]
def laid_lemma_lemmalaw10_room {H : Type} : DataW H := .agg [.lit (.string [114, 111, 111, 109]), .agg [.lit (.int .i64 0), .lit (.int .i64 0), .lit (.int .i64 0)]]
/-- One of Go's own tables, pinned by name: the form's constant. -/
def laid_unicode_utf8_first : DataW Unit := Go.Pinned.utf8First
def laid_lemma_scan_blanks {H : Type} : DataW H := .agg [.lit (.bool false), .lit (.bool false), .lit (.bool false), .lit (.bool false), .lit (.bool false), .lit (.bool false), .lit (.bool false), .lit (.bool false), .lit (.bool false), .lit (.bool true), .lit (.bool true), .lit (.bool false), .lit (.bool true), .lit (.bool true), .lit (.bool false), .lit (.bool false), .lit (.bool false), .lit (.bool false), .lit (.bool false), .lit (.bool false), .lit (.bool false), .lit (.bool false), .lit (.bool false), .lit (.bool false), .lit (.bool false), .lit (.bool false), .lit (.bool false), .lit (.bool false), .lit (.bool false), .lit (.bool false), .lit (.bool false), .lit (.bool false), .lit (.bool true)]

/-- 'lemmalaw10.ProofParses': WHATEVER THE INPUT: true; the input reads as it did. -/
def proofParsesSpec : ChangeSpec := { name := "proofParses", fn := fun _ => fun
  | [d1, d2] => { results := [.lit (.bool true)], args := [d1, d2] }
  | _ => none }
def proofParsesRow : OpenClaim := { program := "ytgjmcdfmmcnmcaadoor", sum := "3b67ecd6679fea8dd480cdbde5504d1cb7c83f024e1179c55002e12526d7d84b", func := "lemma/lemmalaw10.ProofParses", spec := "proofParses", unfollowed := true, recurses := true, named := ["lemma/lemmalaw10.room", "unicode/utf8.first", "unicode/utf8.acceptRanges"], apart := false, laid := [("unicode/utf8.acceptRanges", laid_unicode_utf8_acceptRanges), ("lemma/lemmalaw10.room", laid_lemma_lemmalaw10_room), ("unicode/utf8.first", laid_unicode_utf8_first)] }
def ProofParsesSaid : Prop := proofParsesRow.holds Tryd.pinned (OpenSpec.ofChange proofParsesSpec)

/-- ITS FALSE NEIGHBOUR: 'it returns false'. Refute it at one input. -/
def proofParsesWrong : ChangeSpec := { name := "proofParses", fn := fun _ => fun
  | [d1, d2] => { results := [.lit (.bool false)], args := [d1, d2] }
  | _ => none }
def ProofParsesWrongFalsely : Prop := proofParsesRow.holds Tryd.pinned (OpenSpec.ofChange proofParsesWrong)

/-- 'lemmalaw10.ProofKeeps': WHATEVER THE INPUT: true; the input reads as it did. -/
def proofKeepsSpec : ChangeSpec := { name := "proofKeeps", fn := fun _ => fun
  | [d1, d2] => { results := [.lit (.bool true)], args := [d1, d2] }
  | _ => none }
def proofKeepsRow : OpenClaim := { program := "ytgjmcdfmmcnmcaadoor", sum := "3b67ecd6679fea8dd480cdbde5504d1cb7c83f024e1179c55002e12526d7d84b", func := "lemma/lemmalaw10.ProofKeeps", spec := "proofKeeps", unfollowed := true, recurses := true, named := ["lemma/lemmalaw10.room", "unicode/utf8.first", "unicode/utf8.acceptRanges"], apart := false, laid := [("unicode/utf8.acceptRanges", laid_unicode_utf8_acceptRanges), ("lemma/lemmalaw10.room", laid_lemma_lemmalaw10_room), ("unicode/utf8.first", laid_unicode_utf8_first)] }
def ProofKeepsSaid : Prop := proofKeepsRow.holds Tryd.pinned (OpenSpec.ofChange proofKeepsSpec)

/-- ITS FALSE NEIGHBOUR: 'it returns false'. Refute it at one input. -/
def proofKeepsWrong : ChangeSpec := { name := "proofKeeps", fn := fun _ => fun
  | [d1, d2] => { results := [.lit (.bool false)], args := [d1, d2] }
  | _ => none }
def ProofKeepsWrongFalsely : Prop := proofKeepsRow.holds Tryd.pinned (OpenSpec.ofChange proofKeepsWrong)

/-- 'lemmalaw09.LettersForms': WHATEVER THE INPUT: true; the input reads as it did. -/
def lettersFormsSpec : ChangeSpec := { name := "lettersForms", fn := fun _ => fun
  | [d1, d2] => { results := [.lit (.bool true)], args := [d1, d2] }
  | _ => none }
def lettersFormsRow : OpenClaim := { program := "ytgjmcdfmmcnmcaadoor", sum := "3b67ecd6679fea8dd480cdbde5504d1cb7c83f024e1179c55002e12526d7d84b", func := "lemma/lemmalaw09.LettersForms", spec := "lettersForms", inPlace := ["internal/abi.NoEscape"], named := ["unicode/utf8.first", "unicode/utf8.acceptRanges"], apart := false, laid := [("unicode/utf8.acceptRanges", laid_unicode_utf8_acceptRanges), ("unicode/utf8.first", laid_unicode_utf8_first)] }
def LettersFormsSaid : Prop := lettersFormsRow.holds Tryd.pinned (OpenSpec.ofChange lettersFormsSpec)

/-- ITS FALSE NEIGHBOUR: 'it returns false'. Refute it at one input. -/
def lettersFormsWrong : ChangeSpec := { name := "lettersForms", fn := fun _ => fun
  | [d1, d2] => { results := [.lit (.bool false)], args := [d1, d2] }
  | _ => none }
def LettersFormsWrongFalsely : Prop := lettersFormsRow.holds Tryd.pinned (OpenSpec.ofChange lettersFormsWrong)

/-- 'lemmalaw09.LettersLong': WHATEVER THE INPUT: true; the input reads as it did. -/
def lettersLongSpec : ChangeSpec := { name := "lettersLong", fn := fun _ => fun
  | [d1, d2, d3] => { results := [.lit (.bool true)], args := [d1, d2, d3] }
  | _ => none }
def lettersLongRow : OpenClaim := { program := "ytgjmcdfmmcnmcaadoor", sum := "3b67ecd6679fea8dd480cdbde5504d1cb7c83f024e1179c55002e12526d7d84b", func := "lemma/lemmalaw09.LettersLong", spec := "lettersLong", inPlace := ["internal/abi.NoEscape"], named := ["unicode/utf8.first", "unicode/utf8.acceptRanges"], apart := false, laid := [("unicode/utf8.acceptRanges", laid_unicode_utf8_acceptRanges), ("unicode/utf8.first", laid_unicode_utf8_first)] }
def LettersLongSaid : Prop := lettersLongRow.holds Tryd.pinned (OpenSpec.ofChange lettersLongSpec)

/-- ITS FALSE NEIGHBOUR: 'it returns false'. Refute it at one input. -/
def lettersLongWrong : ChangeSpec := { name := "lettersLong", fn := fun _ => fun
  | [d1, d2, d3] => { results := [.lit (.bool false)], args := [d1, d2, d3] }
  | _ => none }
def LettersLongWrongFalsely : Prop := lettersLongRow.holds Tryd.pinned (OpenSpec.ofChange lettersLongWrong)

/-- 'lemmalaw09.LettersPlays': WHATEVER THE INPUT: true; the input reads as it did. -/
def lettersPlaysSpec : ChangeSpec := { name := "lettersPlays", fn := fun _ => fun
  | [d1, d2, d3] => { results := [.lit (.bool true)], args := [d1, d2, d3] }
  | _ => none }
def lettersPlaysRow : OpenClaim := { program := "ytgjmcdfmmcnmcaadoor", sum := "3b67ecd6679fea8dd480cdbde5504d1cb7c83f024e1179c55002e12526d7d84b", func := "lemma/lemmalaw09.LettersPlays", spec := "lettersPlays", inPlace := ["internal/abi.NoEscape"], named := ["unicode/utf8.first", "unicode/utf8.acceptRanges"], apart := false, laid := [("unicode/utf8.acceptRanges", laid_unicode_utf8_acceptRanges), ("unicode/utf8.first", laid_unicode_utf8_first)] }
def LettersPlaysSaid : Prop := lettersPlaysRow.holds Tryd.pinned (OpenSpec.ofChange lettersPlaysSpec)

/-- ITS FALSE NEIGHBOUR: 'it returns false'. Refute it at one input. -/
def lettersPlaysWrong : ChangeSpec := { name := "lettersPlays", fn := fun _ => fun
  | [d1, d2, d3] => { results := [.lit (.bool false)], args := [d1, d2, d3] }
  | _ => none }
def LettersPlaysWrongFalsely : Prop := lettersPlaysRow.holds Tryd.pinned (OpenSpec.ofChange lettersPlaysWrong)

/-- 'lemmalaw09.LettersBack': WHATEVER THE INPUT: true; the input reads as it did. -/
def lettersBackSpec : ChangeSpec := { name := "lettersBack", fn := fun _ => fun
  | [d1, d2] => { results := [.lit (.bool true)], args := [d1, d2] }
  | _ => none }
def lettersBackRow : OpenClaim := { program := "ytgjmcdfmmcnmcaadoor", sum := "3b67ecd6679fea8dd480cdbde5504d1cb7c83f024e1179c55002e12526d7d84b", func := "lemma/lemmalaw09.LettersBack", spec := "lettersBack", inPlace := ["internal/abi.NoEscape"], named := ["unicode/utf8.first", "unicode/utf8.acceptRanges"], apart := false, laid := [("unicode/utf8.acceptRanges", laid_unicode_utf8_acceptRanges), ("unicode/utf8.first", laid_unicode_utf8_first)] }
def LettersBackSaid : Prop := lettersBackRow.holds Tryd.pinned (OpenSpec.ofChange lettersBackSpec)

/-- ITS FALSE NEIGHBOUR: 'it returns false'. Refute it at one input. -/
def lettersBackWrong : ChangeSpec := { name := "lettersBack", fn := fun _ => fun
  | [d1, d2] => { results := [.lit (.bool false)], args := [d1, d2] }
  | _ => none }
def LettersBackWrongFalsely : Prop := lettersBackRow.holds Tryd.pinned (OpenSpec.ofChange lettersBackWrong)

/-- 'lemmalaw09.LettersTexts': WHATEVER THE INPUT: true; the input reads as it did. -/
def lettersTextsSpec : ChangeSpec := { name := "lettersTexts", fn := fun _ => fun
  | [d1, d2, d3] => { results := [.lit (.bool true)], args := [d1, d2, d3] }
  | _ => none }
def lettersTextsRow : OpenClaim := { program := "ytgjmcdfmmcnmcaadoor", sum := "3b67ecd6679fea8dd480cdbde5504d1cb7c83f024e1179c55002e12526d7d84b", func := "lemma/lemmalaw09.LettersTexts", spec := "lettersTexts", inPlace := ["internal/abi.NoEscape"], named := ["unicode/utf8.first", "unicode/utf8.acceptRanges"], apart := false, laid := [("unicode/utf8.acceptRanges", laid_unicode_utf8_acceptRanges), ("unicode/utf8.first", laid_unicode_utf8_first)] }
def LettersTextsSaid : Prop := lettersTextsRow.holds Tryd.pinned (OpenSpec.ofChange lettersTextsSpec)

/-- ITS FALSE NEIGHBOUR: 'it returns false'. Refute it at one input. -/
def lettersTextsWrong : ChangeSpec := { name := "lettersTexts", fn := fun _ => fun
  | [d1, d2, d3] => { results := [.lit (.bool false)], args := [d1, d2, d3] }
  | _ => none }
def LettersTextsWrongFalsely : Prop := lettersTextsRow.holds Tryd.pinned (OpenSpec.ofChange lettersTextsWrong)

/-- 'lemmalaw09.LettersMemory': WHATEVER THE INPUT: true; the input reads as it did. -/
def lettersMemorySpec : ChangeSpec := { name := "lettersMemory", fn := fun _ => fun
  | [d1, d2] => { results := [.lit (.bool true)], args := [d1, d2] }
  | _ => none }
def lettersMemoryRow : OpenClaim := { program := "ytgjmcdfmmcnmcaadoor", sum := "3b67ecd6679fea8dd480cdbde5504d1cb7c83f024e1179c55002e12526d7d84b", func := "lemma/lemmalaw09.LettersMemory", spec := "lettersMemory", inPlace := ["internal/abi.NoEscape"], named := ["unicode/utf8.first", "unicode/utf8.acceptRanges"], apart := false, laid := [("unicode/utf8.acceptRanges", laid_unicode_utf8_acceptRanges), ("unicode/utf8.first", laid_unicode_utf8_first)] }
def LettersMemorySaid : Prop := lettersMemoryRow.holds Tryd.pinned (OpenSpec.ofChange lettersMemorySpec)

/-- ITS FALSE NEIGHBOUR: 'it returns false'. Refute it at one input. -/
def lettersMemoryWrong : ChangeSpec := { name := "lettersMemory", fn := fun _ => fun
  | [d1, d2] => { results := [.lit (.bool false)], args := [d1, d2] }
  | _ => none }
def LettersMemoryWrongFalsely : Prop := lettersMemoryRow.holds Tryd.pinned (OpenSpec.ofChange lettersMemoryWrong)

/-- 'lemmalaw10.ProofSplits': WHATEVER THE INPUT: true; the input reads as it did. -/
def proofSplitsSpec : ChangeSpec := { name := "proofSplits", fn := fun _ => fun
  | [d1, d2, d3] => { results := [.lit (.bool true)], args := [d1, d2, d3] }
  | _ => none }
def proofSplitsRow : OpenClaim := { program := "ytgjmcdfmmcnmcaadoor", sum := "3b67ecd6679fea8dd480cdbde5504d1cb7c83f024e1179c55002e12526d7d84b", func := "lemma/lemmalaw10.ProofSplits", spec := "proofSplits", inPlace := ["internal/abi.NoEscape"], unfollowed := true, recurses := true, named := ["unicode/utf8.first", "unicode/utf8.acceptRanges"], apart := false, laid := [("unicode/utf8.acceptRanges", laid_unicode_utf8_acceptRanges), ("unicode/utf8.first", laid_unicode_utf8_first)] }
def ProofSplitsSaid : Prop := proofSplitsRow.holds Tryd.pinned (OpenSpec.ofChange proofSplitsSpec)

/-- ITS FALSE NEIGHBOUR: 'it returns false'. Refute it at one input. -/
def proofSplitsWrong : ChangeSpec := { name := "proofSplits", fn := fun _ => fun
  | [d1, d2, d3] => { results := [.lit (.bool false)], args := [d1, d2, d3] }
  | _ => none }
def ProofSplitsWrongFalsely : Prop := proofSplitsRow.holds Tryd.pinned (OpenSpec.ofChange proofSplitsWrong)

/-- 'lemmalaw10.ProofBack': WHATEVER THE INPUT: true; the input reads as it did. -/
def proofBackSpec : ChangeSpec := { name := "proofBack", fn := fun _ => fun
  | [d1, d2] => { results := [.lit (.bool true)], args := [d1, d2] }
  | _ => none }
def proofBackRow : OpenClaim := { program := "ytgjmcdfmmcnmcaadoor", sum := "3b67ecd6679fea8dd480cdbde5504d1cb7c83f024e1179c55002e12526d7d84b", func := "lemma/lemmalaw10.ProofBack", spec := "proofBack", inPlace := ["internal/abi.NoEscape", "internal/bytealg.IndexByteString", "internal/bytealg.IndexString"], unfollowed := true, recurses := true, named := ["lemma/scan.blanks", "internal/bytealg.MaxLen", "unicode/utf8.first", "unicode/utf8.acceptRanges"], apart := false, laid := [("unicode/utf8.acceptRanges", laid_unicode_utf8_acceptRanges), ("lemma/scan.blanks", laid_lemma_scan_blanks), ("unicode/utf8.first", laid_unicode_utf8_first)] }
def ProofBackSaid : Prop := proofBackRow.holds Tryd.pinned (OpenSpec.ofChange proofBackSpec)

/-- ITS FALSE NEIGHBOUR: 'it returns false'. Refute it at one input. -/
def proofBackWrong : ChangeSpec := { name := "proofBack", fn := fun _ => fun
  | [d1, d2] => { results := [.lit (.bool false)], args := [d1, d2] }
  | _ => none }
def ProofBackWrongFalsely : Prop := proofBackRow.holds Tryd.pinned (OpenSpec.ofChange proofBackWrong)

/- THE SECOND FORM. 'bulk': how many values and letters a reading holds, each counted each time it is reached (what is shared counts as often as it is met; a slice's spare places count too). A statement '..UptoSaid' is the law's where the arguments, and the package variables that the reading takes, are together of bulk at most 1048576: NARROWER than '..Said'. Prove '..Said' where nothing that the law and all that it calls make is longer than what came in: it says more and counts as full. Else prove '..UptoSaid'. A law counts once. -/
mutual
def uptoBulk {H : Type} : DataW H → Nat
  | .lit (.string bytes) => bytes.length + 1
  | .lit _ => 1
  | .nil => 1
  | .ptr d => uptoBulk d + 1
  | .slice elems spare => uptoBulkAll elems + uptoBulkAll spare + 1
  | .agg parts => uptoBulkAll parts + 1
  | .iface _ d => uptoBulk d + 1
  | .map entries => uptoBulkEntries entries + 1
  | .held _ => 1
def uptoBulkAll {H : Type} : List (DataW H) → Nat
  | [] => 0
  | d :: r => uptoBulk d + uptoBulkAll r
def uptoBulkEntries {H : Type} : List (Lit × DataW H) → Nat
  | [] => 0
  | x :: r => uptoBulkEntry x + uptoBulkEntries r
def uptoBulkEntry {H : Type} : Lit × DataW H → Nat
  | (.string bytes, d) => bytes.length + uptoBulk d + 1
  | (_, d) => uptoBulk d + 1
 end
def uptoSmall : (H : Type) → List (DataW H) → Bool := fun _ ds => decide (uptoBulkAll ds ≤ 1048576)
def OpenSpec.upto (s : _root_.Go.ChangeSpec) : _root_.Go.OpenSpec := { _root_.Go.OpenSpec.ofChange s with cond := some uptoSmall }

/-- 'lemmalaw10.ProofParses', WHERE WHAT IT READS IS OF BULK AT MOST 1048576: true; the input reads as it did. -/
def proofParsesUptoRow : OpenClaim := { program := "ytgjmcdfmmcnmcaadoor", sum := "3b67ecd6679fea8dd480cdbde5504d1cb7c83f024e1179c55002e12526d7d84b", func := "lemma/lemmalaw10.ProofParses", spec := "proofParses", unfollowed := true, recurses := true, named := ["lemma/lemmalaw10.room", "unicode/utf8.first", "unicode/utf8.acceptRanges"], apart := false, laid := [("unicode/utf8.acceptRanges", laid_unicode_utf8_acceptRanges), ("lemma/lemmalaw10.room", laid_lemma_lemmalaw10_room), ("unicode/utf8.first", laid_unicode_utf8_first)], narrowed := true }
def ProofParsesUptoSaid : Prop := proofParsesUptoRow.holds Tryd.pinned (OpenSpec.upto proofParsesSpec)

/-- 'lemmalaw10.ProofKeeps', WHERE WHAT IT READS IS OF BULK AT MOST 1048576: true; the input reads as it did. -/
def proofKeepsUptoRow : OpenClaim := { program := "ytgjmcdfmmcnmcaadoor", sum := "3b67ecd6679fea8dd480cdbde5504d1cb7c83f024e1179c55002e12526d7d84b", func := "lemma/lemmalaw10.ProofKeeps", spec := "proofKeeps", unfollowed := true, recurses := true, named := ["lemma/lemmalaw10.room", "unicode/utf8.first", "unicode/utf8.acceptRanges"], apart := false, laid := [("unicode/utf8.acceptRanges", laid_unicode_utf8_acceptRanges), ("lemma/lemmalaw10.room", laid_lemma_lemmalaw10_room), ("unicode/utf8.first", laid_unicode_utf8_first)], narrowed := true }
def ProofKeepsUptoSaid : Prop := proofKeepsUptoRow.holds Tryd.pinned (OpenSpec.upto proofKeepsSpec)

/-- 'lemmalaw09.LettersForms', WHERE WHAT IT READS IS OF BULK AT MOST 1048576: true; the input reads as it did. -/
def lettersFormsUptoRow : OpenClaim := { program := "ytgjmcdfmmcnmcaadoor", sum := "3b67ecd6679fea8dd480cdbde5504d1cb7c83f024e1179c55002e12526d7d84b", func := "lemma/lemmalaw09.LettersForms", spec := "lettersForms", inPlace := ["internal/abi.NoEscape"], named := ["unicode/utf8.first", "unicode/utf8.acceptRanges"], apart := false, laid := [("unicode/utf8.acceptRanges", laid_unicode_utf8_acceptRanges), ("unicode/utf8.first", laid_unicode_utf8_first)], narrowed := true }
def LettersFormsUptoSaid : Prop := lettersFormsUptoRow.holds Tryd.pinned (OpenSpec.upto lettersFormsSpec)

/-- 'lemmalaw09.LettersLong', WHERE WHAT IT READS IS OF BULK AT MOST 1048576: true; the input reads as it did. -/
def lettersLongUptoRow : OpenClaim := { program := "ytgjmcdfmmcnmcaadoor", sum := "3b67ecd6679fea8dd480cdbde5504d1cb7c83f024e1179c55002e12526d7d84b", func := "lemma/lemmalaw09.LettersLong", spec := "lettersLong", inPlace := ["internal/abi.NoEscape"], named := ["unicode/utf8.first", "unicode/utf8.acceptRanges"], apart := false, laid := [("unicode/utf8.acceptRanges", laid_unicode_utf8_acceptRanges), ("unicode/utf8.first", laid_unicode_utf8_first)], narrowed := true }
def LettersLongUptoSaid : Prop := lettersLongUptoRow.holds Tryd.pinned (OpenSpec.upto lettersLongSpec)

/-- 'lemmalaw09.LettersPlays', WHERE WHAT IT READS IS OF BULK AT MOST 1048576: true; the input reads as it did. -/
def lettersPlaysUptoRow : OpenClaim := { program := "ytgjmcdfmmcnmcaadoor", sum := "3b67ecd6679fea8dd480cdbde5504d1cb7c83f024e1179c55002e12526d7d84b", func := "lemma/lemmalaw09.LettersPlays", spec := "lettersPlays", inPlace := ["internal/abi.NoEscape"], named := ["unicode/utf8.first", "unicode/utf8.acceptRanges"], apart := false, laid := [("unicode/utf8.acceptRanges", laid_unicode_utf8_acceptRanges), ("unicode/utf8.first", laid_unicode_utf8_first)], narrowed := true }
def LettersPlaysUptoSaid : Prop := lettersPlaysUptoRow.holds Tryd.pinned (OpenSpec.upto lettersPlaysSpec)

/-- 'lemmalaw09.LettersBack', WHERE WHAT IT READS IS OF BULK AT MOST 1048576: true; the input reads as it did. -/
def lettersBackUptoRow : OpenClaim := { program := "ytgjmcdfmmcnmcaadoor", sum := "3b67ecd6679fea8dd480cdbde5504d1cb7c83f024e1179c55002e12526d7d84b", func := "lemma/lemmalaw09.LettersBack", spec := "lettersBack", inPlace := ["internal/abi.NoEscape"], named := ["unicode/utf8.first", "unicode/utf8.acceptRanges"], apart := false, laid := [("unicode/utf8.acceptRanges", laid_unicode_utf8_acceptRanges), ("unicode/utf8.first", laid_unicode_utf8_first)], narrowed := true }
def LettersBackUptoSaid : Prop := lettersBackUptoRow.holds Tryd.pinned (OpenSpec.upto lettersBackSpec)

/-- 'lemmalaw09.LettersTexts', WHERE WHAT IT READS IS OF BULK AT MOST 1048576: true; the input reads as it did. -/
def lettersTextsUptoRow : OpenClaim := { program := "ytgjmcdfmmcnmcaadoor", sum := "3b67ecd6679fea8dd480cdbde5504d1cb7c83f024e1179c55002e12526d7d84b", func := "lemma/lemmalaw09.LettersTexts", spec := "lettersTexts", inPlace := ["internal/abi.NoEscape"], named := ["unicode/utf8.first", "unicode/utf8.acceptRanges"], apart := false, laid := [("unicode/utf8.acceptRanges", laid_unicode_utf8_acceptRanges), ("unicode/utf8.first", laid_unicode_utf8_first)], narrowed := true }
def LettersTextsUptoSaid : Prop := lettersTextsUptoRow.holds Tryd.pinned (OpenSpec.upto lettersTextsSpec)

/-- 'lemmalaw09.LettersMemory', WHERE WHAT IT READS IS OF BULK AT MOST 1048576: true; the input reads as it did. -/
def lettersMemoryUptoRow : OpenClaim := { program := "ytgjmcdfmmcnmcaadoor", sum := "3b67ecd6679fea8dd480cdbde5504d1cb7c83f024e1179c55002e12526d7d84b", func := "lemma/lemmalaw09.LettersMemory", spec := "lettersMemory", inPlace := ["internal/abi.NoEscape"], named := ["unicode/utf8.first", "unicode/utf8.acceptRanges"], apart := false, laid := [("unicode/utf8.acceptRanges", laid_unicode_utf8_acceptRanges), ("unicode/utf8.first", laid_unicode_utf8_first)], narrowed := true }
def LettersMemoryUptoSaid : Prop := lettersMemoryUptoRow.holds Tryd.pinned (OpenSpec.upto lettersMemorySpec)

/-- 'lemmalaw10.ProofSplits', WHERE WHAT IT READS IS OF BULK AT MOST 1048576: true; the input reads as it did. -/
def proofSplitsUptoRow : OpenClaim := { program := "ytgjmcdfmmcnmcaadoor", sum := "3b67ecd6679fea8dd480cdbde5504d1cb7c83f024e1179c55002e12526d7d84b", func := "lemma/lemmalaw10.ProofSplits", spec := "proofSplits", inPlace := ["internal/abi.NoEscape"], unfollowed := true, recurses := true, named := ["unicode/utf8.first", "unicode/utf8.acceptRanges"], apart := false, laid := [("unicode/utf8.acceptRanges", laid_unicode_utf8_acceptRanges), ("unicode/utf8.first", laid_unicode_utf8_first)], narrowed := true }
def ProofSplitsUptoSaid : Prop := proofSplitsUptoRow.holds Tryd.pinned (OpenSpec.upto proofSplitsSpec)

/-- 'lemmalaw10.ProofBack', WHERE WHAT IT READS IS OF BULK AT MOST 1048576: true; the input reads as it did. -/
def proofBackUptoRow : OpenClaim := { program := "ytgjmcdfmmcnmcaadoor", sum := "3b67ecd6679fea8dd480cdbde5504d1cb7c83f024e1179c55002e12526d7d84b", func := "lemma/lemmalaw10.ProofBack", spec := "proofBack", inPlace := ["internal/abi.NoEscape", "internal/bytealg.IndexByteString", "internal/bytealg.IndexString"], unfollowed := true, recurses := true, named := ["lemma/scan.blanks", "internal/bytealg.MaxLen", "unicode/utf8.first", "unicode/utf8.acceptRanges"], apart := false, laid := [("unicode/utf8.acceptRanges", laid_unicode_utf8_acceptRanges), ("lemma/scan.blanks", laid_lemma_scan_blanks), ("unicode/utf8.first", laid_unicode_utf8_first)], narrowed := true }
def ProofBackUptoSaid : Prop := proofBackUptoRow.holds Tryd.pinned (OpenSpec.upto proofBackSpec)

end Rows
end Go.Proofs.YtgjmcdfmmcnmcaaDoor
