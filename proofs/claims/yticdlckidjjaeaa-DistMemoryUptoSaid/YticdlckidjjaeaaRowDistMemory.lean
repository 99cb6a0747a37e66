/- What is handed in stays, its spare room too, and each list that is answered is new memory: written full and lengthened, it stays as it is behind all later calls, which answer what they answered: for arguments of at most 1048576 values together. -/
import Derived.Test.YticdlckidjjaeaaOpn
import Derived.Test.YticdlckidjjaeaaMmF
set_option linter.unusedVariables false
set_option linter.unusedSimpArgs false
namespace Go.Proofs.Yticdlckidjjaeaa.distMemory
open Go.ChangeShapes Go.WideShapes Go.ChangeAt Go.RowKit
open Go.ChangeMaps (open_string shut_string)
theorem own : ownKnob Try.prog.godebug = none := by kernel_rfl
theorem laidOut : laidOutB Try.prog = true := by kernel_rfl
set_option maxRecDepth 100000 in
theorem opn56 : Open.Opn Try.prog 56 IA.k56 (fun x => ((Lit.int .i64 x.f0).wf = true ∧ ((Lit.int .i64 x.f1).wf = true))) (fun x => ((1 + (1)) + 1)) := by
  have h := Open.opn_struct (P := Try.prog) (t := 56) (fun x : IA.S56 => (x.f0, x.f1)) (fun p => ⟨p.1, p.2⟩) (fun _ => rfl) Try.underlying56 (by kernel_rfl) (Open.opnF_cons rfl (Open.opn_int (P := Try.prog) (t := 3) (k := .i64) (by kernel_rfl) (by kernel_rfl)) (Open.opnF_one rfl (Open.opn_int (P := Try.prog) (t := 3) (k := .i64) (by kernel_rfl) (by kernel_rfl))))
  exact h
set_option maxRecDepth 100000 in
theorem opn58 : Open.Opn Try.prog 58 IA.k58 (fun x => ((∀ a ∈ x.f0, ((Lit.int .i64 a.f0).wf = true ∧ ((Lit.int .i64 a.f1).wf = true))) ∧ ((∀ a ∈ x.f1, ((Lit.int .i64 a.f0).wf = true ∧ ((Lit.int .i64 a.f1).wf = true))) ∧ (((Lit.int .i64 x.f2.f0).wf = true ∧ ((Lit.int .i64 x.f2.f1).wf = true)) ∧ ((∀ a ∈ x.f3, (Lit.int .i64 a).wf = true)))))) (fun x => (((Open.sumOf (fun x => ((1 + (1)) + 1)) x.f0 + 1) + ((Open.sumOf (fun x => ((1 + (1)) + 1)) x.f1 + 1) + (((1 + (1)) + 1) + ((Open.sumOf (fun x => 1) x.f3 + 1))))) + 1)) := by
  have h := Open.opn_struct (P := Try.prog) (t := 58) (fun x : IA.S58 => (x.f0, x.f1, x.f2, x.f3)) (fun p => ⟨p.1, p.2.1, p.2.2.1, p.2.2.2⟩) (fun _ => rfl) Try.underlying58 (by kernel_rfl) (Open.opnF_cons rfl (Open.opn_slice (P := Try.prog) (t := 54) (e := 56) (d := IA.k56) (by kernel_rfl) (by kernel_rfl) opn56) (Open.opnF_cons rfl (Open.opn_slice (P := Try.prog) (t := 54) (e := 56) (d := IA.k56) (by kernel_rfl) (by kernel_rfl) opn56) (Open.opnF_cons rfl opn56 (Open.opnF_one rfl (Open.opn_slice (P := Try.prog) (t := 23) (e := 3) (d := (Go.Proofs.YticdlckidjjaeaaW.PrintWords.Kd.int .i64)) (by kernel_rfl) (by kernel_rfl) (Open.opn_int (P := Try.prog) (t := 3) (k := .i64) (by kernel_rfl) (by kernel_rfl)))))))
  exact h
set_option maxRecDepth 100000 in
theorem opn41 : Open.Opn Try.prog 41 IA.k41 (fun x => ((Lit.int .i64 x.f0).wf = true ∧ ((∀ a ∈ x.f1, (Lit.int .i64 a).wf = true)))) (fun x => ((1 + ((Open.sumOf (fun x => 1) x.f1 + 1))) + 1)) := by
  have h := Open.opn_struct (P := Try.prog) (t := 41) (fun x : IA.S41 => (x.f0, x.f1)) (fun p => ⟨p.1, p.2⟩) (fun _ => rfl) Try.underlying41 (by kernel_rfl) (Open.opnF_cons rfl (Open.opn_int (P := Try.prog) (t := 3) (k := .i64) (by kernel_rfl) (by kernel_rfl)) (Open.opnF_one rfl (Open.opn_slice (P := Try.prog) (t := 23) (e := 3) (d := (Go.Proofs.YticdlckidjjaeaaW.PrintWords.Kd.int .i64)) (by kernel_rfl) (by kernel_rfl) (Open.opn_int (P := Try.prog) (t := 3) (k := .i64) (by kernel_rfl) (by kernel_rfl)))))
  exact h
set_option maxRecDepth 100000 in
theorem opn84 : Open.Opn Try.prog 84 IA.k84 (fun x => ((∀ a ∈ x.f0, ((Lit.int .i64 a.f0).wf = true ∧ ((Lit.int .i64 a.f1).wf = true))) ∧ ((∀ a ∈ x.f1, ((Lit.int .i64 a.f0).wf = true ∧ ((∀ a' ∈ a.f1, (Lit.int .i64 a').wf = true)))) ∧ ((∀ a ∈ x.f2, ((Lit.int .i64 a.f0).wf = true ∧ ((Lit.int .i64 a.f1).wf = true))) ∧ ((Lit.int .i64 x.f3).wf = true ∧ ((Lit.int .i64 x.f4).wf = true)))))) (fun x => (((Open.sumOf (fun x => ((1 + (1)) + 1)) x.f0 + 1) + ((Open.sumOf (fun x => ((1 + ((Open.sumOf (fun x => 1) x.f1 + 1))) + 1)) x.f1 + 1) + ((Open.sumOf (fun x => ((1 + (1)) + 1)) x.f2 + 1) + (1 + (1))))) + 1)) := by
  have h := Open.opn_struct (P := Try.prog) (t := 84) (fun x : IA.S84 => (x.f0, x.f1, x.f2, x.f3, x.f4)) (fun p => ⟨p.1, p.2.1, p.2.2.1, p.2.2.2.1, p.2.2.2.2⟩) (fun _ => rfl) Try.underlying84 (by kernel_rfl) (Open.opnF_cons rfl (Open.opn_slice (P := Try.prog) (t := 54) (e := 56) (d := IA.k56) (by kernel_rfl) (by kernel_rfl) opn56) (Open.opnF_cons rfl (Open.opn_slice (P := Try.prog) (t := 22) (e := 41) (d := IA.k41) (by kernel_rfl) (by kernel_rfl) opn41) (Open.opnF_cons rfl (Open.opn_slice (P := Try.prog) (t := 54) (e := 56) (d := IA.k56) (by kernel_rfl) (by kernel_rfl) opn56) (Open.opnF_cons rfl (Open.opn_int (P := Try.prog) (t := 3) (k := .i64) (by kernel_rfl) (by kernel_rfl)) (Open.opnF_one rfl (Open.opn_int (P := Try.prog) (t := 3) (k := .i64) (by kernel_rfl) (by kernel_rfl)))))))
  exact h

set_option maxRecDepth 100000 in
theorem contract (H : Type) (enc : TypeId × Value → H) (W : World) (base : Nat) (args : Array Value) (ds gs : List (DataW H)) (before : List MemPlace)
    (hval : ∀ (j : Nat) t v, Try.f13.params[j]? = some t → args[j]? = some v → Value.okWide Try.prog W .any base t v)
    (hW : DataW.Whole enc Try.prog Try.f13.params.toList Rows.distMemorySpec.vars false W args.toList ds gs before) (hk : Rows.uptoSmall H (ds ++ gs) = true) :
    Calls Try.prog 13 args W fun e W' => ∃ v, e = .returned v ∧ Rows.distMemorySpec.post enc Try.prog Try.f13 false true false false W args v W' := by
  have hW' := hW
  obtain ⟨p, q, hA0, hV, rfl, hfz, hnd⟩ := hW
  have hA : DataW.TrodAll enc Try.prog W 0 (fun _ => true) true Try.f13.params.toList args.toList ds p := hA0
  rw [Try.params13] at hA hval
  obtain ⟨v0, vs0, d0, ds0, p0, q0, hargs, rfl, rfl, h0, r0⟩ := trodAll_cons hA
  obtain ⟨v1, vs1, d1, ds1, p1, q1, rfl, rfl, rfl, h1, r1⟩ := trodAll_cons r0
  obtain ⟨rfl, rfl, rfl⟩ := trodAll_nil r1
  obtain rfl : args = #[v0, v1] := by cases args; simp_all
  obtain ⟨rfl, rfl⟩ := trodVars_none hV
  have lt0 : ∀ x ∈ p0, x.block < W.heap.size := by obtain ⟨m, hm⟩ := h0; exact DataW.trod_lt m _ _ _ hm
  obtain ⟨y0, cs0, rfl, hk0, hg0, hb0⟩ := Open.opn_arg_agg Try.underlying58 opn58 (hval 0 58 v0 rfl rfl) h0
  obtain ⟨S0_0, k0_0, S0_1, k0_1, S0_2, k0_2, rfl, z0_0, q0_0, z0_1, q0_1, z0_2, q0_2⟩ := IA.k58_open hk0
  have lt1 : ∀ x ∈ p1, x.block < W.heap.size := by obtain ⟨m, hm⟩ := h1; exact DataW.trod_lt m _ _ _ hm
  obtain ⟨y1, cs1, rfl, hk1, hg1, hb1⟩ := Open.opn_arg_agg Try.underlying84 opn84 (hval 1 84 v1 rfl rfl) h1
  obtain ⟨S1_0, k1_0, S1_1, k1_1, S1_2, k1_2, rfl, z1_0, q1_0, z1_1, q1_1, z1_2, q1_2⟩ := IA.k84_open hk1
  have hbulk := Open.bound hk
  simp only [List.append_nil, Rows.uptoBulkAll] at hbulk
  clear hA0 hk
  obtain ⟨k, hpure⟩ := Plain.mem_row y0 y1 hb0 hb1 (by omega) hg0 hg1
  refine (Hand.mem_calls k y0 y1 true W q0_0 z0_0 q0_1 z0_1 q0_2 z0_2 q1_0 z1_0 q1_1 z1_1 q1_2 z1_2 hpure).mono fun e W' ⟨he, bel⟩ => ?_
  subst he
  exact ⟨_, rfl, _, _, _, [], _, [], hW', trodAll_mk1 (shut_bool Try.underlying4 _), (trodAll_cons_mk (Below.trod laidOut (by kernel_rfl) (of_decide_eq_true (by kernel_rfl)) h0 bel lt0) (trodAll_cons_mk (Below.trod laidOut (by kernel_rfl) (of_decide_eq_true (by kernel_rfl)) h1 bel lt1) trodAll_mk0)), rfl, bel.frame _, fun h => by cases h⟩

set_option maxRecDepth 100000 in
theorem lifted (os : Os) (started : os.Started) (H : Type) (enc : TypeId × Value → H) (F : Stop.Interp) :
    ReturnsInHanded {} Try.checked os 13 .any ((Rows.OpenSpec.upto Rows.distMemorySpec).pre6 enc Try.prog Try.f13 Rows.distMemoryUptoRow.domain false) (((Rows.OpenSpec.upto Rows.distMemorySpec).at F).post enc Try.prog Try.f13 false true false false) := by
  refine returnsInHanded_of_cond (C := Try.checked) (s := Rows.OpenSpec.upto Rows.distMemorySpec) (k := Rows.uptoSmall) rfl own started (by kernel_rfl) Try.func13
    (OpenSpec.witness (enc := enc) (C := Try.checked) (s := Rows.OpenSpec.upto Rows.distMemorySpec) (k := Rows.uptoSmall) rfl false ⟨#[], #[.agg #[.slice none 0 0, .slice none 0 0, .int .i64 0, .int .i64 0, .slice none 0 0], .agg #[.slice none 0 0, .slice none 0 0, .slice none 0 0, .int .i64 0, .int .i64 0]], []⟩ 8 (by kernel_rfl) (by kernel_rfl) (by kernel_rfl)
      (x := ([.agg [.nil, .nil, .agg [.lit (.int .i64 0), .lit (.int .i64 0)], .nil], .agg [.nil, .nil, .nil, .lit (.int .i64 0), .lit (.int .i64 0)]], [], [])) (by kernel_rfl) rfl (by kernel_rfl)) ?_
  intro W base args ds gs before hval hW _ hk _
  exact contract H enc W base args ds gs before hval hW hk

theorem proved : Rows.DistMemoryUptoSaid :=
  OpenClaim.holds_of_cond 13 Try.f13 rfl rfl rfl rfl rfl rfl rfl ⟨rfl, rfl, rfl, rfl, rfl⟩ rfl rfl rfl rfl rfl (by kernel_rfl) Try.func13 (by kernel_rfl)
    (of_decide_eq_true (by kernel_rfl)) (by unfold Func.isWrapper; first | (rw [if_pos (by decide +kernel)]; kernel_rfl) | (rw [if_neg (by decide +kernel)]; exact ⟨rfl, rfl⟩))
    (fun os started H enc _ F => lifted os started H enc F)
end Go.Proofs.Yticdlckidjjaeaa.distMemory
namespace Go.Proofs.Yticdlckidjjaeaa
/-- The row, under a short name, for the claim. -/
theorem distMemory_holds : Rows.DistMemoryUptoSaid := distMemory.proved
#print axioms distMemory_holds
end Go.Proofs.Yticdlckidjjaeaa
