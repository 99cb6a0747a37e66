/-
  No cell of these rows narrows 'for every input' (looked for: loops, veiled, ifaces, maps, wideKeys, modest, calm, conditions, laid).
  DERIVED. THE GIVEN ROWS OF THIS SEAT. 2 by the template 'for every input the law returns true; each argument reads behind the call as it read before'; 0 by the template 'total and deterministic' (their statements: YtgjmcdfmmcnmcaaTotals.lean).
  GIVEN WITH THE SEED: the statements are not yours to turn. If you find one false, say at which input.
  Laid BY PROGRAM, IN A SANDBOX (cutbox-rows.mjs): the forced cells as the released guide's own fill.sh prints them over the translation ef151fc57ee3ddca… (all of the seat's roots in one cut). By AI agents, Wed Nov 11 2026. No macro, syntax, notation, axiom, sorry.
-/
import Derived.Test.YtgjmcdfmmcnmcaaChecked
import GoSem.Claim
import GoSem.ClaimJoined
import GoSem.ClaimMapViews
import Derived.JoinedTies
import Derived.KernelRfl
namespace Go.Proofs.Ytgjmcdfmmcnmcaa
/- THE CELL 'sum', in the pinned program and in every row, IS THE sha256 OF THE DUMP (.gsa) THAT YtgjmcdfmmcnmcaaProg.lean LOADS. Nothing in Lean hashes anything: it is a label: what it is worth is what the hold of that sum in a sandbox is worth. -/
noncomputable def Try.pinned : Pinned := { name := "ytgjmcdfmmcnmcaa", sum := "ef151fc57ee3ddca0ccaaad2164508b760b06b05b84668b09a81d4e6ee86a6f8", checked := Try.checked }
namespace Rows
def none {H : Type} : Left H := { results := [], args := [] }

/-- 'lemmalaw10.ProofPrints': WHATEVER THE INPUT: true; the input reads as it did. -/
def proofPrintsSpec : ChangeSpec := { name := "proofPrints", fn := fun _ => fun
  | [d1, d2] => { results := [.lit (.bool true)], args := [d1, d2] }
  | _ => none }
def proofPrintsRow : OpenClaim := { program := "ytgjmcdfmmcnmcaa", sum := "ef151fc57ee3ddca0ccaaad2164508b760b06b05b84668b09a81d4e6ee86a6f8", func := "lemma/lemmalaw10.ProofPrints", spec := "proofPrints", inPlace := ["internal/abi.NoEscape"], apart := false }
def ProofPrintsSaid : Prop := proofPrintsRow.holds Try.pinned (OpenSpec.ofChange proofPrintsSpec)

/-- ITS FALSE NEIGHBOUR: 'it returns false'. Refute it at one input. -/
def proofPrintsWrong : ChangeSpec := { name := "proofPrints", fn := fun _ => fun
  | [d1, d2] => { results := [.lit (.bool false)], args := [d1, d2] }
  | _ => none }
def ProofPrintsWrongFalsely : Prop := proofPrintsRow.holds Try.pinned (OpenSpec.ofChange proofPrintsWrong)

/-- 'lemmalaw10.ProofLines': WHATEVER THE INPUT: true; the input reads as it did. -/
def proofLinesSpec : ChangeSpec := { name := "proofLines", fn := fun _ => fun
  | [d1, d2] => { results := [.lit (.bool true)], args := [d1, d2] }
  | _ => none }
def proofLinesRow : OpenClaim := { program := "ytgjmcdfmmcnmcaa", sum := "ef151fc57ee3ddca0ccaaad2164508b760b06b05b84668b09a81d4e6ee86a6f8", func := "lemma/lemmalaw10.ProofLines", spec := "proofLines", inPlace := ["internal/abi.NoEscape"], apart := false }
def ProofLinesSaid : Prop := proofLinesRow.holds Try.pinned (OpenSpec.ofChange proofLinesSpec)

/-- ITS FALSE NEIGHBOUR: 'it returns false'. Refute it at one input. -/
def proofLinesWrong : ChangeSpec := { name := "proofLines", fn := fun _ => fun
  | [d1, d2] => { results := [.lit (.bool false)], args := [d1, d2] }
  | _ => none }
def ProofLinesWrongFalsely : Prop := proofLinesRow.holds Try.pinned (OpenSpec.ofChange proofLinesWrong)

/- THE SECOND FORM. 'bulk': how many values and letters a reading holds, each counted each time it is reached (what is shared counts as often as it is met; a slice's spare places count too). A statement '..UptoSaid' is the law's where the arguments, and the package variables that the reading takes, are together of bulk at most 1048576: NARROWER than '..Said'. Prove '..Said' where nothing that the law and all that it calls make is longer than what came in: it says more and counts as full. Else prove '..UptoSaid'. A law counts once. -/
mutual
def uptoBulk {H : Type} : DataW H → Nat
  | .lit (.string bytes) => bytes.length + 1
  | .lit _ => 1
  | .nil => 1
  | .ptr d => uptoBulk d + 1
  | .slice elems spare => uptoBulkAll elems + uptoBulkAll spare + 1
  | .agg parts => uptoBulkAll parts + 1
  | .iface _ d => uptoBulk d + 1
  | .map entries => uptoBulkEntries entries + 1
  | .held _ => 1
def uptoBulkAll {H : Type} : List (DataW H) → Nat
  | [] => 0
  | d :: r => uptoBulk d + uptoBulkAll r
def uptoBulkEntries {H : Type} : List (Lit × DataW H) → Nat
  | [] => 0
  | x :: r => uptoBulkEntry x + uptoBulkEntries r
def uptoBulkEntry {H : Type} : Lit × DataW H → Nat
  | (.string bytes, d) => bytes.length + uptoBulk d + 1
  | (_, d) => uptoBulk d + 1
 end
def uptoSmall : (H : Type) → List (DataW H) → Bool := fun _ ds => decide (uptoBulkAll ds ≤ 1048576)
def OpenSpec.upto (s : _root_.Go.ChangeSpec) : _root_.Go.OpenSpec := { _root_.Go.OpenSpec.ofChange s with cond := some uptoSmall }

/-- 'lemmalaw10.ProofPrints', WHERE WHAT IT READS IS OF BULK AT MOST 1048576: true; the input reads as it did. -/
def proofPrintsUptoRow : OpenClaim := { program := "ytgjmcdfmmcnmcaa", sum := "ef151fc57ee3ddca0ccaaad2164508b760b06b05b84668b09a81d4e6ee86a6f8", func := "lemma/lemmalaw10.ProofPrints", spec := "proofPrints", inPlace := ["internal/abi.NoEscape"], apart := false, narrowed := true }
def ProofPrintsUptoSaid : Prop := proofPrintsUptoRow.holds Try.pinned (OpenSpec.upto proofPrintsSpec)

/-- 'lemmalaw10.ProofLines', WHERE WHAT IT READS IS OF BULK AT MOST 1048576: true; the input reads as it did. -/
def proofLinesUptoRow : OpenClaim := { program := "ytgjmcdfmmcnmcaa", sum := "ef151fc57ee3ddca0ccaaad2164508b760b06b05b84668b09a81d4e6ee86a6f8", func := "lemma/lemmalaw10.ProofLines", spec := "proofLines", inPlace := ["internal/abi.NoEscape"], apart := false, narrowed := true }
def ProofLinesUptoSaid : Prop := proofLinesUptoRow.holds Try.pinned (OpenSpec.upto proofLinesSpec)

end Rows
end Go.Proofs.Ytgjmcdfmmcnmcaa
