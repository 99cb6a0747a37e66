/- SubstAsks over its one parameter, a struct of binds, an expression, a variable, variables. -/
import Derived.Test.YticdlckidjjaeaaAs
import Derived.Test.YticdlckidjjaeaaQRow
set_option linter.unusedVariables false
namespace Go.Proofs.Yticdlckidjjaeaa.IA
open Go.RowKit Go.Proofs.YticdlckidjjaeaaW.PrintWords Go.Proofs.YticdlckidjjaeaaW.PrintMore
structure S71 where
  f0 : List S41
  f1 : List Int
  f2 : Int
  f3 : List Int
def k71 : Kd S71 := Kd.iso (Kd.pair (Kd.slice 41 k41) (Kd.pair (Kd.slice 3 (Kd.int .i64)) (Kd.pair (Kd.int .i64) (Kd.slice 3 (Kd.int .i64))))) (fun x : S71 => (x.f0, x.f1, x.f2, x.f3))
theorem k71_open {w : World} {x : S71} {cs : List Value} (h : k71.K w x cs) : ∃ A0 c0 A1 c1 A2 c2, cs = [.slice A0 x.f0.length c0, .slice A1 x.f1.length c1, .int .i64 x.f2, .slice A2 x.f3.length c2] ∧ x.f0.length ≤ c0 ∧ k41.C w A0 x.f0.length x.f0 ∧ x.f1.length ≤ c1 ∧ (Kd.int .i64).C w A1 x.f1.length x.f1 ∧ x.f3.length ≤ c2 ∧ (Kd.int .i64).C w A2 x.f3.length x.f3 := by
  obtain ⟨a, b, rfl, ⟨A0, c0, rfl, l0, g0⟩, ⟨a1, b1, rfl, ⟨A1, c1, rfl, l1, g1⟩, ⟨a2, b2, rfl, rfl, ⟨A2, c2, rfl, l2, g2⟩⟩⟩⟩ := h
  exact ⟨A0, c0, A1, c1, A2, c2, rfl, l0, g0, l1, g1, l2, g2⟩
end Go.Proofs.Yticdlckidjjaeaa.IA
namespace Go.Proofs.Yticdlckidjjaeaa.Hand
open Go.RowKit Go.Proofs.YticdlckidjjaeaaW.PrintWords Go.Proofs.YticdlckidjjaeaaW.PrintMore Go.Proofs.Yticdlckidjjaeaa.IA
set_option maxRecDepth 100000 in
theorem asks_calls (k : Nat) {S0 : Option Addr} {k0 : Nat} {S1 : Option Addr} {k1 : Nat} {S2 : Option Addr} {k2 : Nat} (y : S71) (_r : Bool) (w : World) (q0 : Kd.C k41 w S0 y.f0.length y.f0) (z0 : y.f0.length ≤ k0) (q1 : Kd.C (Kd.int .i64) w S1 y.f1.length y.f1) (z1 : y.f1.length ≤ k1) (q2 : Kd.C (Kd.int .i64) w S2 y.f3.length y.f3) (z2 : y.f3.length ≤ k2)
    (h : ∃ S f Z x b sz ap g P O, Plain.AsksFacts k y.f0 y.f1 y.f2 y.f3 S f Z x b sz ap g P O) :
    Calls Try.prog 9 #[.agg #[.slice S0 y.f0.length k0, .slice S1 y.f1.length k1, .int .i64 y.f2, .slice S2 y.f3.length k2]] w fun en w' => en = .returned (.bool true) ∧ Below w.heap.size w w' := by
  obtain ⟨S, f, Z, x, b, sz, ap, g, P, O, F⟩ := h
  exact asks_walk S0 k0 y.f0 S1 k1 y.f1 y.f2 S2 k2 y.f3 w q0 z0 q1 z1 q2 z2 k S f Z x b sz ap g P O F
end Go.Proofs.Yticdlckidjjaeaa.Hand
namespace Go.Proofs.Yticdlckidjjaeaa.Plain
open Go.Proofs.Yticdlckidjjaeaa.IA Go.Proofs.Yticdlckidjjaeaa.Hand
theorem leC0 {a b c n m : Nat} (h : a + 1 + (b + 1 + (1 + (c + 1))) + 1 ≤ n) (hn : n ≤ m) : a ≤ m := by omega
theorem leC1 {a b c n m : Nat} (h : a + 1 + (b + 1 + (1 + (c + 1))) + 1 ≤ n) (hn : n ≤ m) : b ≤ m := by omega
theorem leC3 {a b c n m : Nat} (h : a + 1 + (b + 1 + (1 + (c + 1))) + 1 ≤ n) (hn : n ≤ m) : c ≤ m := by omega
theorem okL_bulk (l : List Bind) (h : Open.sumOf (fun x : Bind => 1 + (Open.sumOf (fun _ => 1) x.f1 + 1) + 1) l ≤ 1048576) : OkL l := by
  have h1 := sumOf_len (fun x : Bind => 1 + (Open.sumOf (fun _ => 1) x.f1 + 1) + 1) l (fun a => by omega)
  refine ⟨by omega, fun x hx => ?_⟩
  have h2 := sumOf_mem (fun x : Bind => 1 + (Open.sumOf (fun _ => 1) x.f1 + 1) + 1) l x hx
  have h3 := sumOf_len (fun _ : Int => 1) x.f1 (fun _ => Nat.le_refl _)
  omega
theorem int_bulk (l : List Int) (h : Open.sumOf (fun _ => 1) l ≤ 1048576) : l.length ≤ 1048576 := by
  have h3 := sumOf_len (fun _ : Int => 1) l (fun _ => Nat.le_refl _)
  omega
end Go.Proofs.Yticdlckidjjaeaa.Plain
