/-
  No cell of these rows narrows 'for every input' (looked for: loops, veiled, ifaces, maps, wideKeys, modest, calm, conditions, laid).
  DERIVED. THE GIVEN ROWS OF THIS SEAT. 11 by the template 'for every input the law returns true; each argument reads behind the call as it read before'; 0 by the template 'total and deterministic' (their statements: YticdlckidjjaeaaTotals.lean).
  GIVEN WITH THE SEED: the statements are not yours to turn. If you find one false, say at which input.
  Laid BY PROGRAM, IN A SANDBOX (cutbox-rows.mjs): the forced cells as the released guide's own fill.sh prints them over the translation de406627d7947091… (all of the seat's roots in one cut). By AI agents, Wed Nov 11 2026. No macro, syntax, notation, axiom, sorry.
-/
import Derived.Test.YticdlckidjjaeaaChecked
import GoSem.Claim
import GoSem.ClaimJoined
import GoSem.ClaimMapViews
import Derived.JoinedTies
import Derived.KernelRfl
namespace Go.Proofs.Yticdlckidjjaeaa
/- THE CELL 'sum', in the pinned program and in every row, IS THE sha256 OF THE DUMP (.gsa) THAT YticdlckidjjaeaaProg.lean LOADS. Nothing in Lean hashes anything: it is a label: what it is worth is what the hold of that sum in a sandbox is worth. -/
noncomputable def Try.pinned : Pinned := { name := "yticdlckidjjaeaa", sum := "de406627d7947091f28215e8829d868da6316b7c10aa8515cb4848f68b3db6e9", checked := Try.checked }
namespace Rows
def none {H : Type} : Left H := { results := [], args := [] }

/-- 'lemmalaw04.SubstOnce': WHATEVER THE INPUT: true; the input reads as it did. -/
def substOnceSpec : ChangeSpec := { name := "substOnce", fn := fun _ => fun
  | [d1, d2] => { results := [.lit (.bool true)], args := [d1, d2] }
  | _ => none }
def substOnceRow : OpenClaim := { program := "yticdlckidjjaeaa", sum := "de406627d7947091f28215e8829d868da6316b7c10aa8515cb4848f68b3db6e9", func := "lemma/lemmalaw04.SubstOnce", spec := "substOnce", unfollowed := true, recurses := true, plainKeys := false, apart := false }
def SubstOnceSaid : Prop := substOnceRow.holds Try.pinned (OpenSpec.ofChange substOnceSpec)

/-- ITS FALSE NEIGHBOUR: 'it returns false'. Refute it at one input. -/
def substOnceWrong : ChangeSpec := { name := "substOnce", fn := fun _ => fun
  | [d1, d2] => { results := [.lit (.bool false)], args := [d1, d2] }
  | _ => none }
def SubstOnceWrongFalsely : Prop := substOnceRow.holds Try.pinned (OpenSpec.ofChange substOnceWrong)

/-- 'lemmalaw04.SubstSizes': WHATEVER THE INPUT: true; the input reads as it did. -/
def substSizesSpec : ChangeSpec := { name := "substSizes", fn := fun _ => fun
  | [d1, d2] => { results := [.lit (.bool true)], args := [d1, d2] }
  | _ => none }
def substSizesRow : OpenClaim := { program := "yticdlckidjjaeaa", sum := "de406627d7947091f28215e8829d868da6316b7c10aa8515cb4848f68b3db6e9", func := "lemma/lemmalaw04.SubstSizes", spec := "substSizes", unfollowed := true, recurses := true, plainKeys := false, apart := false }
def SubstSizesSaid : Prop := substSizesRow.holds Try.pinned (OpenSpec.ofChange substSizesSpec)

/-- ITS FALSE NEIGHBOUR: 'it returns false'. Refute it at one input. -/
def substSizesWrong : ChangeSpec := { name := "substSizes", fn := fun _ => fun
  | [d1, d2] => { results := [.lit (.bool false)], args := [d1, d2] }
  | _ => none }
def SubstSizesWrongFalsely : Prop := substSizesRow.holds Try.pinned (OpenSpec.ofChange substSizesWrong)

/-- 'lemmalaw04.SubstThens': WHATEVER THE INPUT: true; the input reads as it did. -/
def substThensSpec : ChangeSpec := { name := "substThens", fn := fun _ => fun
  | [d1, d2] => { results := [.lit (.bool true)], args := [d1, d2] }
  | _ => none }
def substThensRow : OpenClaim := { program := "yticdlckidjjaeaa", sum := "de406627d7947091f28215e8829d868da6316b7c10aa8515cb4848f68b3db6e9", func := "lemma/lemmalaw04.SubstThens", spec := "substThens", unfollowed := true, recurses := true, plainKeys := false, apart := false }
def SubstThensSaid : Prop := substThensRow.holds Try.pinned (OpenSpec.ofChange substThensSpec)

/-- ITS FALSE NEIGHBOUR: 'it returns false'. Refute it at one input. -/
def substThensWrong : ChangeSpec := { name := "substThens", fn := fun _ => fun
  | [d1, d2] => { results := [.lit (.bool false)], args := [d1, d2] }
  | _ => none }
def SubstThensWrongFalsely : Prop := substThensRow.holds Try.pinned (OpenSpec.ofChange substThensWrong)

/-- 'lemmalaw04.SubstAgain': WHATEVER THE INPUT: true; the input reads as it did. -/
def substAgainSpec : ChangeSpec := { name := "substAgain", fn := fun _ => fun
  | [d] => { results := [.lit (.bool true)], args := [d] }
  | _ => none }
def substAgainRow : OpenClaim := { program := "yticdlckidjjaeaa", sum := "de406627d7947091f28215e8829d868da6316b7c10aa8515cb4848f68b3db6e9", func := "lemma/lemmalaw04.SubstAgain", spec := "substAgain", unfollowed := true, recurses := true, plainKeys := false, apart := false }
def SubstAgainSaid : Prop := substAgainRow.holds Try.pinned (OpenSpec.ofChange substAgainSpec)

/-- ITS FALSE NEIGHBOUR: 'it returns false'. Refute it at one input. -/
def substAgainWrong : ChangeSpec := { name := "substAgain", fn := fun _ => fun
  | [d] => { results := [.lit (.bool false)], args := [d] }
  | _ => none }
def SubstAgainWrongFalsely : Prop := substAgainRow.holds Try.pinned (OpenSpec.ofChange substAgainWrong)

/-- 'lemmalaw05.DistLists': WHATEVER THE INPUT: true; the input reads as it did. -/
def distListsSpec : ChangeSpec := { name := "distLists", fn := fun _ => fun
  | [d] => { results := [.lit (.bool true)], args := [d] }
  | _ => none }
def distListsRow : OpenClaim := { program := "yticdlckidjjaeaa", sum := "de406627d7947091f28215e8829d868da6316b7c10aa8515cb4848f68b3db6e9", func := "lemma/lemmalaw05.DistLists", spec := "distLists", unfollowed := true, recurses := true, plainKeys := false, apart := false }
def DistListsSaid : Prop := distListsRow.holds Try.pinned (OpenSpec.ofChange distListsSpec)

/-- ITS FALSE NEIGHBOUR: 'it returns false'. Refute it at one input. -/
def distListsWrong : ChangeSpec := { name := "distLists", fn := fun _ => fun
  | [d] => { results := [.lit (.bool false)], args := [d] }
  | _ => none }
def DistListsWrongFalsely : Prop := distListsRow.holds Try.pinned (OpenSpec.ofChange distListsWrong)

/-- 'lemmalaw05.DistSets': WHATEVER THE INPUT: true; the input reads as it did. -/
def distSetsSpec : ChangeSpec := { name := "distSets", fn := fun _ => fun
  | [d] => { results := [.lit (.bool true)], args := [d] }
  | _ => none }
def distSetsRow : OpenClaim := { program := "yticdlckidjjaeaa", sum := "de406627d7947091f28215e8829d868da6316b7c10aa8515cb4848f68b3db6e9", func := "lemma/lemmalaw05.DistSets", spec := "distSets", unfollowed := true, recurses := true, plainKeys := false, apart := false }
def DistSetsSaid : Prop := distSetsRow.holds Try.pinned (OpenSpec.ofChange distSetsSpec)

/-- ITS FALSE NEIGHBOUR: 'it returns false'. Refute it at one input. -/
def distSetsWrong : ChangeSpec := { name := "distSets", fn := fun _ => fun
  | [d] => { results := [.lit (.bool false)], args := [d] }
  | _ => none }
def DistSetsWrongFalsely : Prop := distSetsRow.holds Try.pinned (OpenSpec.ofChange distSetsWrong)

/-- 'lemmalaw04.SubstAsks': WHATEVER THE INPUT: true; the input reads as it did. -/
def substAsksSpec : ChangeSpec := { name := "substAsks", fn := fun _ => fun
  | [d] => { results := [.lit (.bool true)], args := [d] }
  | _ => none }
def substAsksRow : OpenClaim := { program := "yticdlckidjjaeaa", sum := "de406627d7947091f28215e8829d868da6316b7c10aa8515cb4848f68b3db6e9", func := "lemma/lemmalaw04.SubstAsks", spec := "substAsks", unfollowed := true, recurses := true, plainKeys := false, apart := false }
def SubstAsksSaid : Prop := substAsksRow.holds Try.pinned (OpenSpec.ofChange substAsksSpec)

/-- ITS FALSE NEIGHBOUR: 'it returns false'. Refute it at one input. -/
def substAsksWrong : ChangeSpec := { name := "substAsks", fn := fun _ => fun
  | [d] => { results := [.lit (.bool false)], args := [d] }
  | _ => none }
def SubstAsksWrongFalsely : Prop := substAsksRow.holds Try.pinned (OpenSpec.ofChange substAsksWrong)

/-- 'lemmalaw04.SubstFresh': WHATEVER THE INPUT: true; the input reads as it did. -/
def substFreshSpec : ChangeSpec := { name := "substFresh", fn := fun _ => fun
  | [d] => { results := [.lit (.bool true)], args := [d] }
  | _ => none }
def substFreshRow : OpenClaim := { program := "yticdlckidjjaeaa", sum := "de406627d7947091f28215e8829d868da6316b7c10aa8515cb4848f68b3db6e9", func := "lemma/lemmalaw04.SubstFresh", spec := "substFresh", unfollowed := true, recurses := true, plainKeys := false, apart := false }
def SubstFreshSaid : Prop := substFreshRow.holds Try.pinned (OpenSpec.ofChange substFreshSpec)

/-- ITS FALSE NEIGHBOUR: 'it returns false'. Refute it at one input. -/
def substFreshWrong : ChangeSpec := { name := "substFresh", fn := fun _ => fun
  | [d] => { results := [.lit (.bool false)], args := [d] }
  | _ => none }
def SubstFreshWrongFalsely : Prop := substFreshRow.holds Try.pinned (OpenSpec.ofChange substFreshWrong)

/-- 'lemmalaw05.DistBreaks': WHATEVER THE INPUT: true; the input reads as it did. -/
def distBreaksSpec : ChangeSpec := { name := "distBreaks", fn := fun _ => fun
  | [d1, d2] => { results := [.lit (.bool true)], args := [d1, d2] }
  | _ => none }
def distBreaksRow : OpenClaim := { program := "yticdlckidjjaeaa", sum := "de406627d7947091f28215e8829d868da6316b7c10aa8515cb4848f68b3db6e9", func := "lemma/lemmalaw05.DistBreaks", spec := "distBreaks", unfollowed := true, recurses := true, plainKeys := false, apart := false }
def DistBreaksSaid : Prop := distBreaksRow.holds Try.pinned (OpenSpec.ofChange distBreaksSpec)

/-- ITS FALSE NEIGHBOUR: 'it returns false'. Refute it at one input. -/
def distBreaksWrong : ChangeSpec := { name := "distBreaks", fn := fun _ => fun
  | [d1, d2] => { results := [.lit (.bool false)], args := [d1, d2] }
  | _ => none }
def DistBreaksWrongFalsely : Prop := distBreaksRow.holds Try.pinned (OpenSpec.ofChange distBreaksWrong)

/-- 'lemmalaw05.DistThen': WHATEVER THE INPUT: true; the input reads as it did. -/
def distThenSpec : ChangeSpec := { name := "distThen", fn := fun _ => fun
  | [d1, d2, d3] => { results := [.lit (.bool true)], args := [d1, d2, d3] }
  | _ => none }
def distThenRow : OpenClaim := { program := "yticdlckidjjaeaa", sum := "de406627d7947091f28215e8829d868da6316b7c10aa8515cb4848f68b3db6e9", func := "lemma/lemmalaw05.DistThen", spec := "distThen", unfollowed := true, recurses := true, plainKeys := false, apart := false }
def DistThenSaid : Prop := distThenRow.holds Try.pinned (OpenSpec.ofChange distThenSpec)

/-- ITS FALSE NEIGHBOUR: 'it returns false'. Refute it at one input. -/
def distThenWrong : ChangeSpec := { name := "distThen", fn := fun _ => fun
  | [d1, d2, d3] => { results := [.lit (.bool false)], args := [d1, d2, d3] }
  | _ => none }
def DistThenWrongFalsely : Prop := distThenRow.holds Try.pinned (OpenSpec.ofChange distThenWrong)

/-- 'lemmalaw05.DistMemory': WHATEVER THE INPUT: true; the input reads as it did. -/
def distMemorySpec : ChangeSpec := { name := "distMemory", fn := fun _ => fun
  | [d1, d2] => { results := [.lit (.bool true)], args := [d1, d2] }
  | _ => none }
def distMemoryRow : OpenClaim := { program := "yticdlckidjjaeaa", sum := "de406627d7947091f28215e8829d868da6316b7c10aa8515cb4848f68b3db6e9", func := "lemma/lemmalaw05.DistMemory", spec := "distMemory", unfollowed := true, recurses := true, plainKeys := false, apart := false }
def DistMemorySaid : Prop := distMemoryRow.holds Try.pinned (OpenSpec.ofChange distMemorySpec)

/-- ITS FALSE NEIGHBOUR: 'it returns false'. Refute it at one input. -/
def distMemoryWrong : ChangeSpec := { name := "distMemory", fn := fun _ => fun
  | [d1, d2] => { results := [.lit (.bool false)], args := [d1, d2] }
  | _ => none }
def DistMemoryWrongFalsely : Prop := distMemoryRow.holds Try.pinned (OpenSpec.ofChange distMemoryWrong)

/- THE SECOND FORM. 'bulk': how many values and letters a reading holds, each counted each time it is reached (what is shared counts as often as it is met; a slice's spare places count too). A statement '..UptoSaid' is the law's where the arguments, and the package variables that the reading takes, are together of bulk at most 1048576: NARROWER than '..Said'. Prove '..Said' where nothing that the law and all that it calls make is longer than what came in: it says more and counts as full. Else prove '..UptoSaid'. A law counts once. -/
mutual
def uptoBulk {H : Type} : DataW H → Nat
  | .lit (.string bytes) => bytes.length + 1
  | .lit _ => 1
  | .nil => 1
  | .ptr d => uptoBulk d + 1
  | .slice elems spare => uptoBulkAll elems + uptoBulkAll spare + 1
  | .agg parts => uptoBulkAll parts + 1
  | .iface _ d => uptoBulk d + 1
  | .map entries => uptoBulkEntries entries + 1
  | .held _ => 1
def uptoBulkAll {H : Type} : List (DataW H) → Nat
  | [] => 0
  | d :: r => uptoBulk d + uptoBulkAll r
def uptoBulkEntries {H : Type} : List (Lit × DataW H) → Nat
  | [] => 0
  | x :: r => uptoBulkEntry x + uptoBulkEntries r
def uptoBulkEntry {H : Type} : Lit × DataW H → Nat
  | (.string bytes, d) => bytes.length + uptoBulk d + 1
  | (_, d) => uptoBulk d + 1
 end
def uptoSmall : (H : Type) → List (DataW H) → Bool := fun _ ds => decide (uptoBulkAll ds ≤ 1048576)
def OpenSpec.upto (s : _root_.Go.ChangeSpec) : _root_.Go.OpenSpec := { _root_.Go.OpenSpec.ofChange s with cond := some uptoSmall }

/-- 'lemmalaw04.SubstOnce', WHERE WHAT IT READS IS OF BULK AT MOST 1048576: true; the input reads as it did. -/
def substOnceUptoRow : OpenClaim := { program := "yticdlckidjjaeaa", sum := "de406627d7947091f28215e8829d868da6316b7c10aa8515cb4848f68b3db6e9", func := "lemma/lemmalaw04.SubstOnce", spec := "substOnce", unfollowed := true, recurses := true, plainKeys := false, apart := false, narrowed := true }
def SubstOnceUptoSaid : Prop := substOnceUptoRow.holds Try.pinned (OpenSpec.upto substOnceSpec)

/-- 'lemmalaw04.SubstSizes', WHERE WHAT IT READS IS OF BULK AT MOST 1048576: true; the input reads as it did. -/
def substSizesUptoRow : OpenClaim := { program := "yticdlckidjjaeaa", sum := "de406627d7947091f28215e8829d868da6316b7c10aa8515cb4848f68b3db6e9", func := "lemma/lemmalaw04.SubstSizes", spec := "substSizes", unfollowed := true, recurses := true, plainKeys := false, apart := false, narrowed := true }
def SubstSizesUptoSaid : Prop := substSizesUptoRow.holds Try.pinned (OpenSpec.upto substSizesSpec)

/-- 'lemmalaw04.SubstThens', WHERE WHAT IT READS IS OF BULK AT MOST 1048576: true; the input reads as it did. -/
def substThensUptoRow : OpenClaim := { program := "yticdlckidjjaeaa", sum := "de406627d7947091f28215e8829d868da6316b7c10aa8515cb4848f68b3db6e9", func := "lemma/lemmalaw04.SubstThens", spec := "substThens", unfollowed := true, recurses := true, plainKeys := false, apart := false, narrowed := true }
def SubstThensUptoSaid : Prop := substThensUptoRow.holds Try.pinned (OpenSpec.upto substThensSpec)

/-- 'lemmalaw04.SubstAgain', WHERE WHAT IT READS IS OF BULK AT MOST 1048576: true; the input reads as it did. -/
def substAgainUptoRow : OpenClaim := { program := "yticdlckidjjaeaa", sum := "de406627d7947091f28215e8829d868da6316b7c10aa8515cb4848f68b3db6e9", func := "lemma/lemmalaw04.SubstAgain", spec := "substAgain", unfollowed := true, recurses := true, plainKeys := false, apart := false, narrowed := true }
def SubstAgainUptoSaid : Prop := substAgainUptoRow.holds Try.pinned (OpenSpec.upto substAgainSpec)

/-- 'lemmalaw05.DistLists', WHERE WHAT IT READS IS OF BULK AT MOST 1048576: true; the input reads as it did. -/
def distListsUptoRow : OpenClaim := { program := "yticdlckidjjaeaa", sum := "de406627d7947091f28215e8829d868da6316b7c10aa8515cb4848f68b3db6e9", func := "lemma/lemmalaw05.DistLists", spec := "distLists", unfollowed := true, recurses := true, plainKeys := false, apart := false, narrowed := true }
def DistListsUptoSaid : Prop := distListsUptoRow.holds Try.pinned (OpenSpec.upto distListsSpec)

/-- 'lemmalaw05.DistSets', WHERE WHAT IT READS IS OF BULK AT MOST 1048576: true; the input reads as it did. -/
def distSetsUptoRow : OpenClaim := { program := "yticdlckidjjaeaa", sum := "de406627d7947091f28215e8829d868da6316b7c10aa8515cb4848f68b3db6e9", func := "lemma/lemmalaw05.DistSets", spec := "distSets", unfollowed := true, recurses := true, plainKeys := false, apart := false, narrowed := true }
def DistSetsUptoSaid : Prop := distSetsUptoRow.holds Try.pinned (OpenSpec.upto distSetsSpec)

/-- 'lemmalaw04.SubstAsks', WHERE WHAT IT READS IS OF BULK AT MOST 1048576: true; the input reads as it did. -/
def substAsksUptoRow : OpenClaim := { program := "yticdlckidjjaeaa", sum := "de406627d7947091f28215e8829d868da6316b7c10aa8515cb4848f68b3db6e9", func := "lemma/lemmalaw04.SubstAsks", spec := "substAsks", unfollowed := true, recurses := true, plainKeys := false, apart := false, narrowed := true }
def SubstAsksUptoSaid : Prop := substAsksUptoRow.holds Try.pinned (OpenSpec.upto substAsksSpec)

/-- 'lemmalaw04.SubstFresh', WHERE WHAT IT READS IS OF BULK AT MOST 1048576: true; the input reads as it did. -/
def substFreshUptoRow : OpenClaim := { program := "yticdlckidjjaeaa", sum := "de406627d7947091f28215e8829d868da6316b7c10aa8515cb4848f68b3db6e9", func := "lemma/lemmalaw04.SubstFresh", spec := "substFresh", unfollowed := true, recurses := true, plainKeys := false, apart := false, narrowed := true }
def SubstFreshUptoSaid : Prop := substFreshUptoRow.holds Try.pinned (OpenSpec.upto substFreshSpec)

/-- 'lemmalaw05.DistBreaks', WHERE WHAT IT READS IS OF BULK AT MOST 1048576: true; the input reads as it did. -/
def distBreaksUptoRow : OpenClaim := { program := "yticdlckidjjaeaa", sum := "de406627d7947091f28215e8829d868da6316b7c10aa8515cb4848f68b3db6e9", func := "lemma/lemmalaw05.DistBreaks", spec := "distBreaks", unfollowed := true, recurses := true, plainKeys := false, apart := false, narrowed := true }
def DistBreaksUptoSaid : Prop := distBreaksUptoRow.holds Try.pinned (OpenSpec.upto distBreaksSpec)

/-- 'lemmalaw05.DistThen', WHERE WHAT IT READS IS OF BULK AT MOST 1048576: true; the input reads as it did. -/
def distThenUptoRow : OpenClaim := { program := "yticdlckidjjaeaa", sum := "de406627d7947091f28215e8829d868da6316b7c10aa8515cb4848f68b3db6e9", func := "lemma/lemmalaw05.DistThen", spec := "distThen", unfollowed := true, recurses := true, plainKeys := false, apart := false, narrowed := true }
def DistThenUptoSaid : Prop := distThenUptoRow.holds Try.pinned (OpenSpec.upto distThenSpec)

/-- 'lemmalaw05.DistMemory', WHERE WHAT IT READS IS OF BULK AT MOST 1048576: true; the input reads as it did. -/
def distMemoryUptoRow : OpenClaim := { program := "yticdlckidjjaeaa", sum := "de406627d7947091f28215e8829d868da6316b7c10aa8515cb4848f68b3db6e9", func := "lemma/lemmalaw05.DistMemory", spec := "distMemory", unfollowed := true, recurses := true, plainKeys := false, apart := false, narrowed := true }
def DistMemoryUptoSaid : Prop := distMemoryUptoRow.holds Try.pinned (OpenSpec.upto distMemorySpec)

end Rows
end Go.Proofs.Yticdlckidjjaeaa
