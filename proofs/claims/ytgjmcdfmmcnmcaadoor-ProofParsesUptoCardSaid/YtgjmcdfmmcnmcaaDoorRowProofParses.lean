/- Of every tokens and every end Parse tells what the document's reference tells, and leaves the tokens and their spare room as they are (at most 1048576 values and letters). -/
import Derived.Test.YtgjmcdfmmcnmcaaDoorCards
import Derived.Test.YtgjmcdfmmcnmcaaDoorTie
import Derived.Test.YtgjmcdfmmcnmcaaDoorOpen
import Derived.Test.YtgjmcdfmmcnmcaaDoorRoomM
import Derived.Test.YtgjmcdfmmcnmcaaDoorUtf8
import Derived.Lib.LaidIn
import Derived.Lib.LaidU8T
import Derived.PinnedBridge
import Derived.Deep.DeepHandedRow
import Derived.Deep.DeepWitnessRowRef
set_option linter.unusedVariables false
set_option linter.unusedSimpArgs false
namespace Go.Proofs.YtgjmcdfmmcnmcaaDoor.proofParses
open Go.ChangeShapes Go.WideShapes Go.ChangeAt Go.RowKit
open Go.ChangeMaps (open_string shut_string)
theorem own : ownKnob Tryd.prog.godebug = none := by kernel_rfl
theorem laidOut : laidOutB Tryd.prog = true := by kernel_rfl
theorem laidIs : Rows.proofParsesUptoRow.laid = [("unicode/utf8.acceptRanges", Go.Lib.acceptData), ("lemma/lemmalaw10.room", Rows.laid_lemma_lemmalaw10_room), ("unicode/utf8.first", Go.Lib.firstData)] := by
  show [("unicode/utf8.acceptRanges", Rows.laid_unicode_utf8_acceptRanges), ("lemma/lemmalaw10.room", Rows.laid_lemma_lemmalaw10_room), ("unicode/utf8.first", Go.Pinned.utf8First)] = [("unicode/utf8.acceptRanges", Go.Lib.acceptData), ("lemma/lemmalaw10.room", Rows.laid_lemma_lemmalaw10_room), ("unicode/utf8.first", Go.Lib.firstData)]
  rw [Go.Pinned.utf8First_eq]
  rfl
set_option maxRecDepth 100000 in
theorem opn24 : Open.Opn Tryd.prog 24 IA.k24 (fun x => ((Lit.int .i64 x.f0).wf = true ∧ ((Lit.int .i64 x.f1).wf = true ∧ ((Lit.int .i64 x.f2).wf = true)))) (fun x => ((1 + (1 + (1))) + 1)) := by
  have h := Open.opn_struct (P := Tryd.prog) (t := 24) (fun x : IA.S24 => (x.f0, x.f1, x.f2)) (fun p => ⟨p.1, p.2.1, p.2.2⟩) (fun _ => rfl) Tryd.underlying24 (by kernel_rfl) (Open.opnF_cons rfl (Open.opn_int (k := .i64) (by kernel_rfl) (by kernel_rfl)) (Open.opnF_cons rfl (Open.opn_int (k := .i64) (by kernel_rfl) (by kernel_rfl)) (Open.opnF_one rfl (Open.opn_int (k := .i64) (by kernel_rfl) (by kernel_rfl)))))
  exact h
set_option maxRecDepth 100000 in
theorem opn26 : Open.Opn Tryd.prog 26 IA.k26 (fun x => (x.f0.size ≤ maxLen ∧ (((Lit.int .i64 x.f1.f0).wf = true ∧ ((Lit.int .i64 x.f1.f1).wf = true ∧ ((Lit.int .i64 x.f1.f2).wf = true)))))) (fun x => (((x.f0.size + 1) + (((1 + (1 + (1))) + 1))) + 1)) := by
  have h := Open.opn_struct (P := Tryd.prog) (t := 26) (fun x : IA.S26 => (x.f0, x.f1)) (fun p => ⟨p.1, p.2⟩) (fun _ => rfl) Tryd.underlying26 (by kernel_rfl) (Open.opnF_cons rfl (Open.opn_string (by kernel_rfl) (by kernel_rfl)) (Open.opnF_one rfl opn24))
  exact h

set_option maxRecDepth 100000 in
set_option maxRecDepth 100000 in
theorem contract (H : Type) (enc : TypeId × Value → H) (W : World) (base : Nat) (args : Array Value) (ds gs : List (DataW H)) (before : List MemPlace)
    (hval : ∀ (j : Nat) t v, Tryd.f3.params[j]? = some t → args[j]? = some v → Value.okWide Tryd.prog W .any base t v)
    (hW : DataW.Whole enc Tryd.prog Tryd.f3.params.toList Rows.proofParsesSpec.vars false W args.toList ds gs before) (hk : Rows.uptoSmall H (ds ++ gs) = true) (hL : laidMetH Tryd.prog Rows.proofParsesUptoRow.laid W) (hsh : W.ShapedOpen Tryd.prog) :
    Calls Tryd.prog 3 args W fun e W' => ∃ v, e = .returned v ∧ Rows.proofParsesSpec.post enc Tryd.prog Tryd.f3 false true false false W args v W' := by
  have hW' := hW
  obtain ⟨p, q, hA0, hV, rfl, hfz, hnd⟩ := hW
  have hA : DataW.TrodAll enc Tryd.prog W 0 (fun _ => true) true Tryd.f3.params.toList args.toList ds p := hA0
  rw [Tryd.params3] at hA hval
  obtain ⟨v0, vs0, d0, ds0, p0, q0, hargs, rfl, rfl, h0, r0⟩ := trodAll_cons hA
  obtain ⟨v1, vs1, d1, ds1, p1, q1, rfl, rfl, rfl, h1, r1⟩ := trodAll_cons r0
  obtain ⟨rfl, rfl, rfl⟩ := trodAll_nil r1
  obtain rfl : args = #[v0, v1] := by cases args; simp_all
  obtain ⟨rfl, rfl⟩ := trodVars_none hV
  have lt0 : ∀ x ∈ p0, x.block < W.heap.size := by obtain ⟨m, hm⟩ := h0; exact DataW.trod_lt m _ _ _ hm
  obtain ⟨A0, len0, cap0, rfl⟩ := okWide_slice Tryd.underlying22 (hval 0 22 v0 rfl rfl)
  obtain ⟨l0, rfl, hc0, hr0, hg0, hb0⟩ := Open.opn_arg_slice (Open.opn_slice (by kernel_rfl) (by kernel_rfl) opn26) h0
  have lt1 : ∀ x ∈ p1, x.block < W.heap.size := by obtain ⟨m, hm⟩ := h1; exact DataW.trod_lt m _ _ _ hm
  obtain ⟨y1, cs1, rfl, hk1, hg1, hb1⟩ := Open.opn_arg_agg Tryd.underlying26 opn26 (hval 1 26 v1 rfl rfl) h1
  obtain rfl := IA.k26_open hk1
  have hbulk := Open.bound hk
  simp only [List.append_nil, Rows.uptoBulkAll] at hbulk
  clear hA0 hk
  rw [laidIs] at hL
  have hT : Hand.Tabs W := Go.Proofs.utf8Tabs_of_readsT (Go.Proofs.U8Types.of260 Tryd.lays260) ⟨by kernel_rfl, by kernel_rfl, by kernel_rfl, by kernel_rfl, by kernel_rfl, by kernel_rfl, by kernel_rfl⟩ (Go.Lib.laidMet.reads hL (.tail _ (.tail _ (.head _)))) (Go.Lib.laidMet.reads hL (.head _))
  obtain ⟨k, hpure⟩ := (⟨0, rfl, by have := Hand.bulk_tokens l0; omega, by have := Hand.bulk_tokens l0; omega⟩ : ∃ k : Nat, true = true ∧ l0.length ≤ 1048576 ∧ Hand.wbytes l0 ≤ 1048576)
  refine (Hand.parses_calls k _ _ l0 y1 true W hT (Hand.room_of (Go.Lib.laidMet.reads hL (.tail _ (.head _)))) hr0 hc0  hpure).mono fun e W' ⟨he, bel⟩ => ?_
  subst he
  exact ⟨_, rfl, _, _, _, [], _, [], hW', trodAll_mk1 (shut_bool Tryd.underlying4 _), (trodAll_cons_mk (Below.trod laidOut (by kernel_rfl) (of_decide_eq_true (by kernel_rfl)) h0 bel lt0) (trodAll_cons_mk (Below.trod laidOut (by kernel_rfl) (of_decide_eq_true (by kernel_rfl)) h1 bel lt1) trodAll_mk0)), rfl, bel.frame _, fun h => by cases h⟩

/-- THE WITNESS: the settled world, the listed variables holding what their initialisers lay. -/
noncomputable def laidWorld (os : Os) : World :=
  let w0 := World.holding Tryd.prog os ⟨#[], #[], []⟩
  let put (h : Array Obj) (g : Nat) (cs : Array Value) : Array Obj := h.modify g fun
    | .cells _ t frozen => .cells cs t frozen
    | o => o
  let h1 := put w0.heap 2 ((List.range 16).flatMap fun i => [Value.int .u8 (Lib.accLo i), Value.int .u8 (Lib.accHi i)]).toArray
  let h2 := put h1 0 #[.string ⟨#[114, 111, 111, 109]⟩, .int .i64 0, .int .i64 0, .int .i64 0]
  let h3 := put h2 1 (Lib.firstTab.map fun z => Value.int .u8 z).toArray
  { w0 with heap := h3 }
theorem laid_met (os : Os) (args : Array Value) : laidMet Tryd.prog Rows.proofParsesUptoRow.laid ((laidWorld os).forCall (fun _ _ => 0) ⟨#[], args, []⟩).memory :=
  laidIs ▸ (LaidIn.of_run (l := [("unicode/utf8.acceptRanges", Go.Lib.acceptData), ("lemma/lemmalaw10.room", Rows.laid_lemma_lemmalaw10_room), ("unicode/utf8.first", Go.Lib.firstData)]) [2, 0, 1] 8 (by kernel_rfl) (by kernel_rfl) (by kernel_rfl) (by kernel_rfl)).met
theorem reads (os : Os) {H : Type} (enc : TypeId × Value → H) : ∃ places, DataW.whole enc Tryd.prog ((laidWorld os).forCall (fun _ _ => 0) ⟨#[], #[.slice none 0 0, .agg #[.string ByteArray.empty, .int .i64 0, .int .i64 0, .int .i64 0]], []⟩).memory Tryd.f3.params.toList Rows.proofParsesSpec.vars false #[Value.slice none 0 0, Value.agg #[Value.string ByteArray.empty, Value.int .i64 0, Value.int .i64 0, Value.int .i64 0]].toList 8 = some ([.nil, .agg [.lit (.string []), .agg [.lit (.int .i64 0), .lit (.int .i64 0), .lit (.int .i64 0)]]], [], places) := by
  have hw : (DataW.whole enc Tryd.prog ((laidWorld os).forCall (fun _ _ => 0) ⟨#[], #[.slice none 0 0, .agg #[.string ByteArray.empty, .int .i64 0, .int .i64 0, .int .i64 0]], []⟩).memory Tryd.f3.params.toList Rows.proofParsesSpec.vars false #[Value.slice none 0 0, Value.agg #[Value.string ByteArray.empty, Value.int .i64 0, Value.int .i64 0, Value.int .i64 0]].toList 8).map (fun x => (x.1, x.2.1)) = some ([.nil, .agg [.lit (.string []), .agg [.lit (.int .i64 0), .lit (.int .i64 0), .lit (.int .i64 0)]]], []) := by kernel_rfl
  obtain ⟨⟨x1, x2, x3⟩, hx, hx1⟩ := Option.map_eq_some_iff.1 hw
  simp only [Prod.mk.injEq] at hx1
  obtain ⟨rfl, rfl⟩ := hx1
  exact ⟨_, hx⟩

set_option maxRecDepth 100000 in
theorem lifted (os : Os) (started : os.Started) (H : Type) (enc : TypeId × Value → H) (F : Stop.Interp) :
    ReturnsInHanded {} Tryd.checked os 3 .any ((Rows.OpenSpec.upto Rows.proofParsesSpec).preRow enc Tryd.prog Tryd.f3 Rows.proofParsesUptoRow.domain false Rows.proofParsesUptoRow.laid) (((Rows.OpenSpec.upto Rows.proofParsesSpec).at F).post enc Tryd.prog Tryd.f3 false true false false) := by
  obtain ⟨places, hx⟩ := reads os enc
  refine returnsInHanded_of_row (C := Tryd.checked) (s := Rows.OpenSpec.upto Rows.proofParsesSpec) own started (by kernel_rfl) Tryd.func3
    (witness_row_at (enc := enc) (C := Tryd.checked) false (laidWorld os) #[.slice none 0 0, .agg #[.string ByteArray.empty, .int .i64 0, .int .i64 0, .int .i64 0]] rfl (by kernel_rfl) (by kernel_rfl) (by kernel_rfl)
      (OpenSpec.preRow_of_cond 8 hx (by kernel_rfl) (fun k hk => by cases hk; kernel_rfl) (by kernel_rfl) (laid_met os _))) ?_
  intro W base args ds gs before hval hW _ hcond _ hL hsh _
  exact contract H enc W base args ds gs before hval hW (hcond _ rfl) hL hsh

theorem proved : Rows.ProofParsesUptoSaid :=
  OpenClaim.holds_of_cond 3 Tryd.f3 rfl rfl rfl rfl rfl rfl rfl ⟨rfl, rfl, rfl, rfl, rfl⟩ rfl rfl rfl rfl rfl (by kernel_rfl) Tryd.func3 (by kernel_rfl)
    (of_decide_eq_true (by kernel_rfl)) (by unfold Func.isWrapper; first | (rw [if_pos (by decide +kernel)]; kernel_rfl) | (rw [if_neg (by decide +kernel)]; exact ⟨rfl, rfl⟩))
    (fun os started H enc _ F => by rw [OpenClaim.pre_eq_preRow]; exact lifted os started H enc F)

/-- No parameter wants a stand-in; the program's own looks are off: what the card asks. -/
theorem plain (f : FuncId) (fn : Func) (hf : Tryd.pinned.checked.prog.funcNamed "lemma/lemmalaw10.ProofParses" = some f) (hfn : Tryd.pinned.checked.prog.funcs[f]? = some fn) :
    false = Tryd.pinned.checked.prog.looks [] ∧ ∀ (j : Nat) t, fn.params[j]? = some t → Tryd.pinned.checked.prog.wantsStandIn t = false := by
  obtain rfl : f = 3 := Option.some.inj ((show Tryd.prog.funcNamed "lemma/lemmalaw10.ProofParses" = some 3 by kernel_rfl).symm.trans hf) |>.symm
  obtain rfl : fn = Tryd.f3 := (Option.some.inj (Tryd.func3.symm.trans hfn)).symm
  refine ⟨by kernel_rfl, fun j t ht => ?_⟩
  rw [Tryd.params3] at ht
  have hm := Array.mem_of_getElem? ht
  have hall : ∀ t ∈ (#[22, 26] : Array TypeId), Tryd.prog.wantsStandIn t = false := by
    intro t ht
    simp only [List.mem_toArray, List.mem_cons, List.not_mem_nil, or_false] at ht
    rcases ht with rfl | rfl
    all_goals kernel_rfl
  exact hall t hm

theorem card : Rows.ProofParsesUptoCardSaid :=
  Claim7.holds_tied_plain_at .later [] _ _ _ _ proved (fun _ h => by cases h) (by kernel_rfl) (fun _ h => by cases h) proofParsesUpto_row_tie rfl ⟨rfl, rfl⟩ (by kernel_rfl) rfl plain (by kernel_rfl)
end Go.Proofs.YtgjmcdfmmcnmcaaDoor.proofParses
namespace Go.Proofs.YtgjmcdfmmcnmcaaDoor
/-- The row's card, under a short name, for the claim. -/
theorem proofParses_holds : Rows.ProofParsesUptoCardSaid := proofParses.card
#print axioms proofParses_holds
end Go.Proofs.YtgjmcdfmmcnmcaaDoor
