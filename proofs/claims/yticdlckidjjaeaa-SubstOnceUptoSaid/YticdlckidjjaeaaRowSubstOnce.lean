/- Without the reference: of binds of unlike variables each symbol of an expression becomes what stands for it, all at once, what was put in is not looked at again; it is refused just where that has more than 200 symbols, and Size is its length; two binds of one variable are refused (binds and expression of bulk at most 1048576). -/
import Derived.Test.YticdlckidjjaeaaOpn
import Derived.Test.YticdlckidjjaeaaQOn
import Derived.Test.YticdlckidjjaeaaQRow
import Derived.Test.YticdlckidjjaeaaIAx3
set_option linter.unusedVariables false
set_option linter.unusedSimpArgs false
namespace Go.Proofs.Yticdlckidjjaeaa.substOnce
open Go.ChangeShapes Go.WideShapes Go.ChangeAt Go.RowKit
open Go.ChangeMaps (open_string shut_string)
theorem own : ownKnob Try.prog.godebug = none := by kernel_rfl
theorem laidOut : laidOutB Try.prog = true := by kernel_rfl
set_option maxRecDepth 100000 in
theorem opn41 : Open.Opn Try.prog 41 IA.k41 (fun x => ((Lit.int .i64 x.f0).wf = true ∧ (∀ a ∈ x.f1, (Lit.int .i64 a).wf = true))) (fun x => ((1 + ((Open.sumOf (fun x => 1) x.f1 + 1))) + 1)) := by
  have h := Open.opn_struct (P := Try.prog) (t := 41) (fun x : IA.S41 => (x.f0, x.f1)) (fun p => ⟨p.1, p.2⟩) (fun _ => rfl) Try.underlying41 (by kernel_rfl) (Open.opnF_cons rfl (Open.opn_int (P := Try.prog) (t := 3) (k := .i64) (by kernel_rfl) (by kernel_rfl)) (Open.opnF_one rfl (Open.opn_slice (P := Try.prog) (t := 23) (e := 3) (d := (Go.Proofs.YticdlckidjjaeaaW.PrintWords.Kd.int .i64)) (by kernel_rfl) (by kernel_rfl) (Open.opn_int (P := Try.prog) (t := 3) (k := .i64) (by kernel_rfl) (by kernel_rfl)))))
  exact h

set_option maxRecDepth 100000 in
theorem contract (H : Type) (enc : TypeId × Value → H) (W : World) (base : Nat) (args : Array Value) (ds gs : List (DataW H)) (before : List MemPlace)
    (hval : ∀ (j : Nat) t v, Try.f3.params[j]? = some t → args[j]? = some v → Value.okWide Try.prog W .any base t v)
    (hW : DataW.Whole enc Try.prog Try.f3.params.toList Rows.substOnceSpec.vars false W args.toList ds gs before) (hk : Rows.uptoSmall H (ds ++ gs) = true) :
    Calls Try.prog 3 args W fun e W' => ∃ v, e = .returned v ∧ Rows.substOnceSpec.post enc Try.prog Try.f3 false true false false W args v W' := by
  have hW' := hW
  obtain ⟨p, q, hA0, hV, rfl, hfz, hnd⟩ := hW
  have hA : DataW.TrodAll enc Try.prog W 0 (fun _ => true) true Try.f3.params.toList args.toList ds p := hA0
  rw [Try.params3] at hA hval
  obtain ⟨v0, vs0, d0, ds0, p0, q0, hargs, rfl, rfl, h0, r0⟩ := trodAll_cons hA
  obtain ⟨v1, vs1, d1, ds1, p1, q1, rfl, rfl, rfl, h1, r1⟩ := trodAll_cons r0
  obtain ⟨rfl, rfl, rfl⟩ := trodAll_nil r1
  obtain rfl : args = #[v0, v1] := by cases args; simp_all
  obtain ⟨rfl, rfl⟩ := trodVars_none hV
  have lt0 : ∀ x ∈ p0, x.block < W.heap.size := by obtain ⟨m, hm⟩ := h0; exact DataW.trod_lt m _ _ _ hm
  obtain ⟨A0, len0, cap0, rfl⟩ := okWide_slice Try.underlying22 (hval 0 22 v0 rfl rfl)
  obtain ⟨l0, rfl, hc0, hr0, hg0, hb0⟩ := Open.opn_arg_slice (Open.opn_slice (P := Try.prog) (t := 22) (e := 41) (d := IA.k41) (by kernel_rfl) (by kernel_rfl) opn41) h0
  obtain ⟨A1, len1, cap1, rfl⟩ := okWide_slice Try.underlying23 (hval 1 23 v1 rfl rfl)
  have lt1 : ∀ x ∈ p1, x.block < W.heap.size := by obtain ⟨m, hm⟩ := h1; exact DataW.trod_lt m _ _ _ hm
  obtain ⟨l1, rfl, hc1, hr1, hw1, hb1⟩ := Open.ints Try.underlying23 Try.underlying3 (by kernel_rfl) h1
  have hbulk := Open.bound hk
  simp only [List.append_nil, Rows.uptoBulkAll] at hbulk
  clear hA0 hk
  obtain ⟨k, hpure⟩ := Plain.once (l := l0) (Plain.ok_bulk l0 (Nat.le_trans (Nat.le_succ _) (Nat.le_trans hb0 (by omega)))) l1 (by omega)
  refine (IA.lemmalaw04_SubstOnce.calls k _ _ l0 _ _ l1 true W hr0 hc0 hr1 hc1 hpure).mono fun e W' ⟨he, bel⟩ => ?_
  subst he
  exact ⟨_, rfl, _, _, _, [], _, [], hW', trodAll_mk1 (shut_bool Try.underlying4 _), (trodAll_cons_mk (Below.trod laidOut (by kernel_rfl) (of_decide_eq_true (by kernel_rfl)) h0 bel lt0) (trodAll_cons_mk (Below.trod laidOut (by kernel_rfl) (of_decide_eq_true (by kernel_rfl)) h1 bel lt1) trodAll_mk0)), rfl, bel.frame _, fun h => by cases h⟩

set_option maxRecDepth 100000 in
theorem lifted (os : Os) (started : os.Started) (H : Type) (enc : TypeId × Value → H) (F : Stop.Interp) :
    ReturnsInHanded {} Try.checked os 3 .any ((Rows.OpenSpec.upto Rows.substOnceSpec).pre6 enc Try.prog Try.f3 Rows.substOnceUptoRow.domain false) (((Rows.OpenSpec.upto Rows.substOnceSpec).at F).post enc Try.prog Try.f3 false true false false) := by
  refine returnsInHanded_of_cond (C := Try.checked) (s := Rows.OpenSpec.upto Rows.substOnceSpec) (k := Rows.uptoSmall) rfl own started (by kernel_rfl) Try.func3
    (OpenSpec.witness (enc := enc) (C := Try.checked) (s := Rows.OpenSpec.upto Rows.substOnceSpec) (k := Rows.uptoSmall) rfl false ⟨#[], #[.slice none 0 0, .slice none 0 0], []⟩ 8 (by kernel_rfl) (by kernel_rfl) (by kernel_rfl)
      (x := ([.nil, .nil], [], [])) (by kernel_rfl) rfl (by kernel_rfl)) ?_
  intro W base args ds gs before hval hW _ hk _
  exact contract H enc W base args ds gs before hval hW hk

theorem proved : Rows.SubstOnceUptoSaid :=
  OpenClaim.holds_of_cond 3 Try.f3 rfl rfl rfl rfl rfl rfl rfl ⟨rfl, rfl, rfl, rfl, rfl⟩ rfl rfl rfl rfl rfl (by kernel_rfl) Try.func3 (by kernel_rfl)
    (of_decide_eq_true (by kernel_rfl)) (by unfold Func.isWrapper; first | (rw [if_pos (by decide +kernel)]; kernel_rfl) | (rw [if_neg (by decide +kernel)]; exact ⟨rfl, rfl⟩))
    (fun os started H enc _ F => lifted os started H enc F)
end Go.Proofs.Yticdlckidjjaeaa.substOnce
namespace Go.Proofs.Yticdlckidjjaeaa
/-- The row, under a short name, for the claim. -/
theorem substOnce_holds : Rows.SubstOnceUptoSaid := substOnce.proved
#print axioms substOnce_holds
end Go.Proofs.Yticdlckidjjaeaa
