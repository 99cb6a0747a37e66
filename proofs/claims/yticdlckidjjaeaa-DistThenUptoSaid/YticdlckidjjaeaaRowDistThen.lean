/- A list that is carried through one substitution and through a second one behind it is carried through both at once, and asks for the same: for arguments of at most 1048576 values together. -/
import Derived.Test.YticdlckidjjaeaaOpn
import Derived.Test.YticdlckidjjaeaaBTR
set_option linter.unusedVariables false
set_option linter.unusedSimpArgs false
namespace Go.Proofs.Yticdlckidjjaeaa.distThen
open Go.ChangeShapes Go.WideShapes Go.ChangeAt Go.RowKit
open Go.ChangeMaps (open_string shut_string)
theorem own : ownKnob Try.prog.godebug = none := by kernel_rfl
theorem laidOut : laidOutB Try.prog = true := by kernel_rfl
set_option maxRecDepth 100000 in
theorem opn56 : Open.Opn Try.prog 56 IA.k56 (fun x => ((Lit.int .i64 x.f0).wf = true ∧ ((Lit.int .i64 x.f1).wf = true))) (fun x => ((1 + (1)) + 1)) := by
  have h := Open.opn_struct (P := Try.prog) (t := 56) (fun x : IA.S56 => (x.f0, x.f1)) (fun p => ⟨p.1, p.2⟩) (fun _ => rfl) Try.underlying56 (by kernel_rfl) (Open.opnF_cons rfl (Open.opn_int (P := Try.prog) (t := 3) (k := .i64) (by kernel_rfl) (by kernel_rfl)) (Open.opnF_one rfl (Open.opn_int (P := Try.prog) (t := 3) (k := .i64) (by kernel_rfl) (by kernel_rfl))))
  exact h
set_option maxRecDepth 100000 in
theorem opn41 : Open.Opn Try.prog 41 IA.k41 (fun x => ((Lit.int .i64 x.f0).wf = true ∧ ((∀ a ∈ x.f1, (Lit.int .i64 a).wf = true)))) (fun x => ((1 + ((Open.sumOf (fun x => 1) x.f1 + 1))) + 1)) := by
  have h := Open.opn_struct (P := Try.prog) (t := 41) (fun x : IA.S41 => (x.f0, x.f1)) (fun p => ⟨p.1, p.2⟩) (fun _ => rfl) Try.underlying41 (by kernel_rfl) (Open.opnF_cons rfl (Open.opn_int (P := Try.prog) (t := 3) (k := .i64) (by kernel_rfl) (by kernel_rfl)) (Open.opnF_one rfl (Open.opn_slice (P := Try.prog) (t := 23) (e := 3) (d := (Go.Proofs.YticdlckidjjaeaaW.PrintWords.Kd.int .i64)) (by kernel_rfl) (by kernel_rfl) (Open.opn_int (P := Try.prog) (t := 3) (k := .i64) (by kernel_rfl) (by kernel_rfl)))))
  exact h

set_option maxRecDepth 100000 in
theorem contract (H : Type) (enc : TypeId × Value → H) (W : World) (base : Nat) (args : Array Value) (ds gs : List (DataW H)) (before : List MemPlace)
    (hval : ∀ (j : Nat) t v, Try.f12.params[j]? = some t → args[j]? = some v → Value.okWide Try.prog W .any base t v)
    (hW : DataW.Whole enc Try.prog Try.f12.params.toList Rows.distThenSpec.vars false W args.toList ds gs before) (hk : Rows.uptoSmall H (ds ++ gs) = true) :
    Calls Try.prog 12 args W fun e W' => ∃ v, e = .returned v ∧ Rows.distThenSpec.post enc Try.prog Try.f12 false true false false W args v W' := by
  have hW' := hW
  obtain ⟨p, q, hA0, hV, rfl, hfz, hnd⟩ := hW
  have hA : DataW.TrodAll enc Try.prog W 0 (fun _ => true) true Try.f12.params.toList args.toList ds p := hA0
  rw [Try.params12] at hA hval
  obtain ⟨v0, vs0, d0, ds0, p0, q0, hargs, rfl, rfl, h0, r0⟩ := trodAll_cons hA
  obtain ⟨v1, vs1, d1, ds1, p1, q1, rfl, rfl, rfl, h1, r1⟩ := trodAll_cons r0
  obtain ⟨v2, vs2, d2, ds2, p2, q2, rfl, rfl, rfl, h2, r2⟩ := trodAll_cons r1
  obtain ⟨rfl, rfl, rfl⟩ := trodAll_nil r2
  obtain rfl : args = #[v0, v1, v2] := by cases args; simp_all
  obtain ⟨rfl, rfl⟩ := trodVars_none hV
  have lt0 : ∀ x ∈ p0, x.block < W.heap.size := by obtain ⟨m, hm⟩ := h0; exact DataW.trod_lt m _ _ _ hm
  obtain ⟨A0, len0, cap0, rfl⟩ := okWide_slice Try.underlying54 (hval 0 54 v0 rfl rfl)
  obtain ⟨l0, rfl, hc0, hr0, hg0, hb0⟩ := Open.opn_arg_slice (Open.opn_slice (P := Try.prog) (t := 54) (e := 56) (d := IA.k56) (by kernel_rfl) (by kernel_rfl) opn56) h0
  have lt1 : ∀ x ∈ p1, x.block < W.heap.size := by obtain ⟨m, hm⟩ := h1; exact DataW.trod_lt m _ _ _ hm
  obtain ⟨A1, len1, cap1, rfl⟩ := okWide_slice Try.underlying22 (hval 1 22 v1 rfl rfl)
  obtain ⟨l1, rfl, hc1, hr1, hg1, hb1⟩ := Open.opn_arg_slice (Open.opn_slice (P := Try.prog) (t := 22) (e := 41) (d := IA.k41) (by kernel_rfl) (by kernel_rfl) opn41) h1
  have lt2 : ∀ x ∈ p2, x.block < W.heap.size := by obtain ⟨m, hm⟩ := h2; exact DataW.trod_lt m _ _ _ hm
  obtain ⟨A2, len2, cap2, rfl⟩ := okWide_slice Try.underlying22 (hval 2 22 v2 rfl rfl)
  obtain ⟨l2, rfl, hc2, hr2, hg2, hb2⟩ := Open.opn_arg_slice (Open.opn_slice (P := Try.prog) (t := 22) (e := 41) (d := IA.k41) (by kernel_rfl) (by kernel_rfl) opn41) h2
  have hbulk := Open.bound hk
  simp only [List.append_nil, Rows.uptoBulkAll] at hbulk
  clear hA0 hk
  obtain ⟨k, hpure⟩ := Plain.dthen_row l0 l1 l2 hb0 hb1 hb2 (by omega) hg0 hg1 hg2
  refine (Hand.dthen_calls k _ _ l0 _ _ l1 _ _ l2 true W hr0 hc0 hr1 hc1 hr2 hc2 hpure).mono fun e W' ⟨he, bel⟩ => ?_
  subst he
  exact ⟨_, rfl, _, _, _, [], _, [], hW', trodAll_mk1 (shut_bool Try.underlying4 _), (trodAll_cons_mk (Below.trod laidOut (by kernel_rfl) (of_decide_eq_true (by kernel_rfl)) h0 bel lt0) (trodAll_cons_mk (Below.trod laidOut (by kernel_rfl) (of_decide_eq_true (by kernel_rfl)) h1 bel lt1) (trodAll_cons_mk (Below.trod laidOut (by kernel_rfl) (of_decide_eq_true (by kernel_rfl)) h2 bel lt2) trodAll_mk0))), rfl, bel.frame _, fun h => by cases h⟩

set_option maxRecDepth 100000 in
theorem lifted (os : Os) (started : os.Started) (H : Type) (enc : TypeId × Value → H) (F : Stop.Interp) :
    ReturnsInHanded {} Try.checked os 12 .any ((Rows.OpenSpec.upto Rows.distThenSpec).pre6 enc Try.prog Try.f12 Rows.distThenUptoRow.domain false) (((Rows.OpenSpec.upto Rows.distThenSpec).at F).post enc Try.prog Try.f12 false true false false) := by
  refine returnsInHanded_of_cond (C := Try.checked) (s := Rows.OpenSpec.upto Rows.distThenSpec) (k := Rows.uptoSmall) rfl own started (by kernel_rfl) Try.func12
    (OpenSpec.witness (enc := enc) (C := Try.checked) (s := Rows.OpenSpec.upto Rows.distThenSpec) (k := Rows.uptoSmall) rfl false ⟨#[], #[.slice none 0 0, .slice none 0 0, .slice none 0 0], []⟩ 8 (by kernel_rfl) (by kernel_rfl) (by kernel_rfl)
      (x := ([.nil, .nil, .nil], [], [])) (by kernel_rfl) rfl (by kernel_rfl)) ?_
  intro W base args ds gs before hval hW _ hk _
  exact contract H enc W base args ds gs before hval hW hk

theorem proved : Rows.DistThenUptoSaid :=
  OpenClaim.holds_of_cond 12 Try.f12 rfl rfl rfl rfl rfl rfl rfl ⟨rfl, rfl, rfl, rfl, rfl⟩ rfl rfl rfl rfl rfl (by kernel_rfl) Try.func12 (by kernel_rfl)
    (of_decide_eq_true (by kernel_rfl)) (by unfold Func.isWrapper; first | (rw [if_pos (by decide +kernel)]; kernel_rfl) | (rw [if_neg (by decide +kernel)]; exact ⟨rfl, rfl⟩))
    (fun os started H enc _ F => lifted os started H enc F)
end Go.Proofs.Yticdlckidjjaeaa.distThen
namespace Go.Proofs.Yticdlckidjjaeaa
/-- The row, under a short name, for the claim. -/
theorem distThen_holds : Rows.DistThenUptoSaid := distThen.proved
#print axioms distThen_holds
end Go.Proofs.Yticdlckidjjaeaa
