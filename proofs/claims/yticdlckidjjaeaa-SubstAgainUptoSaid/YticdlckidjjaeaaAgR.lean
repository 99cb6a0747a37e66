/- SubstAgain over its one parameter, a struct of two lists of binds and an expression. -/
import Derived.Test.YticdlckidjjaeaaAg
set_option linter.unusedVariables false
namespace Go.Proofs.Yticdlckidjjaeaa.IA
open Go.RowKit Go.Proofs.YticdlckidjjaeaaW.PrintWords Go.Proofs.YticdlckidjjaeaaW.PrintMore
structure S52 where
  f0 : List S41
  f1 : List S41
  f2 : List Int
def k52 : Kd S52 := Kd.iso (Kd.pair (Kd.slice 41 k41) (Kd.pair (Kd.slice 41 k41) (Kd.slice 3 (Kd.int .i64)))) (fun x : S52 => (x.f0, x.f1, x.f2))
theorem k52_open {w : World} {x : S52} {cs : List Value} (h : k52.K w x cs) : ∃ A0 c0 A1 c1 A2 c2, cs = [.slice A0 x.f0.length c0, .slice A1 x.f1.length c1, .slice A2 x.f2.length c2] ∧ x.f0.length ≤ c0 ∧ k41.C w A0 x.f0.length x.f0 ∧ x.f1.length ≤ c1 ∧ k41.C w A1 x.f1.length x.f1 ∧ x.f2.length ≤ c2 ∧ (Kd.int .i64).C w A2 x.f2.length x.f2 := by
  obtain ⟨a, b, rfl, ⟨A0, c0, rfl, l0, g0⟩, ⟨a1, b1, rfl, ⟨A1, c1, rfl, l1, g1⟩, ⟨A2, c2, rfl, l2, g2⟩⟩⟩ := h
  exact ⟨A0, c0, A1, c1, A2, c2, rfl, l0, g0, l1, g1, l2, g2⟩
end Go.Proofs.Yticdlckidjjaeaa.IA
namespace Go.Proofs.Yticdlckidjjaeaa.Hand
open Go.RowKit Go.Proofs.YticdlckidjjaeaaW.PrintWords Go.Proofs.YticdlckidjjaeaaW.PrintMore Go.Proofs.Yticdlckidjjaeaa.IA
set_option maxRecDepth 100000 in
theorem again_calls (k : Nat) {S0 : Option Addr} {k0 : Nat} {S1 : Option Addr} {k1 : Nat} {S2 : Option Addr} {k2 : Nat} (y : S52) (_r : Bool) (w : World) (q0 : Kd.C k41 w S0 y.f0.length y.f0) (z0 : y.f0.length ≤ k0) (q1 : Kd.C k41 w S1 y.f1.length y.f1) (z1 : y.f1.length ≤ k1) (q2 : Kd.C (Kd.int .i64) w S2 y.f2.length y.f2) (z2 : y.f2.length ≤ k2)
    (h : ∃ sA lA sB lB x f u h mid kk one m, Plain.AgainFacts k y.f0 y.f1 y.f2 sA lA sB lB x f u h mid kk one m) :
    Calls Try.prog 6 #[.agg #[.slice S0 y.f0.length k0, .slice S1 y.f1.length k1, .slice S2 y.f2.length k2]] w fun en w' => en = .returned (.bool true) ∧ Below w.heap.size w w' := by
  obtain ⟨sA, lA, sB, lB, x, f, u, h, mid, kk, one, m, F⟩ := h
  exact ag_walk S0 k0 y.f0 S1 k1 y.f1 S2 k2 y.f2 w q0 z0 q1 z1 q2 z2 k sA lA sB lB x f u h mid kk one m F
end Go.Proofs.Yticdlckidjjaeaa.Hand
namespace Go.Proofs.Yticdlckidjjaeaa.Plain
theorem le0 {a b c n m : Nat} (h : a + 1 + (b + 1 + (c + 1)) + 1 ≤ n) (hn : n ≤ m) : a ≤ m := by omega
theorem le1 {a b c n m : Nat} (h : a + 1 + (b + 1 + (c + 1)) + 1 ≤ n) (hn : n ≤ m) : b ≤ m := by omega
end Go.Proofs.Yticdlckidjjaeaa.Plain
