/- DistSets over its one parameter. -/
import Derived.Test.YticdlckidjjaeaaDSW
import Derived.Test.YticdlckidjjaeaaOpn
set_option linter.unusedVariables false
namespace Go.Proofs.Yticdlckidjjaeaa.IA
open Go.RowKit Go.Proofs.YticdlckidjjaeaaW.PrintWords Go.Proofs.YticdlckidjjaeaaW.PrintMore
structure S58 where
  f0 : List S56
  f1 : List S56
  f2 : S56
  f3 : List Int
def k58 : Kd S58 := Kd.iso (Kd.pair (Kd.slice 56 k56) (Kd.pair (Kd.slice 56 k56) (Kd.pair k56 (Kd.slice 3 (Kd.int .i64))))) (fun x : S58 => (x.f0, x.f1, x.f2, x.f3))
theorem k58_open {w : World} {x : S58} {cs : List Value} (h : k58.K w x cs) : ∃ A0 c0 A1 c1 A2 c2, cs = [.slice A0 x.f0.length c0, .slice A1 x.f1.length c1, .int .i64 x.f2.f0, .int .i64 x.f2.f1, .slice A2 x.f3.length c2] ∧ x.f0.length ≤ c0 ∧ k56.C w A0 x.f0.length x.f0 ∧ x.f1.length ≤ c1 ∧ k56.C w A1 x.f1.length x.f1 ∧ x.f3.length ≤ c2 ∧ (Kd.int .i64).C w A2 x.f3.length x.f3 := by
  obtain ⟨a, b, rfl, ⟨A0, c0, rfl, l0, g0⟩, ⟨a1, b1, rfl, ⟨A1, c1, rfl, l1, g1⟩, ⟨a2, b2, rfl, hp, ⟨A2, c2, rfl, l2, g2⟩⟩⟩⟩ := h
  obtain rfl := k56_open hp
  exact ⟨A0, c0, A1, c1, A2, c2, rfl, l0, g0, l1, g1, l2, g2⟩
end Go.Proofs.Yticdlckidjjaeaa.IA
namespace Go.Proofs.Yticdlckidjjaeaa.Hand
open Go.RowKit Go.Proofs.YticdlckidjjaeaaW.PrintWords Go.Proofs.YticdlckidjjaeaaW.PrintMore Go.Proofs.Yticdlckidjjaeaa.IA Go.Proofs.Yticdlckidjjaeaa.Plain
set_option maxRecDepth 100000 in
theorem sets_calls (k : Nat) {S0 : Option Addr} {k0 : Nat} {S1 : Option Addr} {k1 : Nat} {S2 : Option Addr} {k2 : Nat} (y : S58) (_r : Bool) (w : World) (q0 : Kd.C k56 w S0 y.f0.length y.f0) (z0 : y.f0.length ≤ k0) (q1 : Kd.C k56 w S1 y.f1.length y.f1) (z1 : y.f1.length ≤ k1) (q2 : Kd.C (Kd.int .i64) w S2 y.f3.length y.f3) (z2 : y.f3.length ≤ k2)
    (h : ∃ n u o D E W, SetsFacts k y.f0 y.f1 y.f2 y.f3 n u o D E W) :
    Calls Try.prog 8 #[.agg #[.slice S0 y.f0.length k0, .slice S1 y.f1.length k1, .int .i64 y.f2.f0, .int .i64 y.f2.f1, .slice S2 y.f3.length k2]] w fun en w' => en = .returned (.bool true) ∧ Below w.heap.size w w' := by
  obtain ⟨n, u, o, D, E, W, F⟩ := h
  exact sets_walk S0 k0 y.f0 S1 k1 y.f1 y.f2 S2 k2 y.f3 w q0 z0 q1 z1 q2 z2 k n u o D E W F
end Go.Proofs.Yticdlckidjjaeaa.Hand
namespace Go.Proofs.Yticdlckidjjaeaa.Plain
open Go.RowKit Go.Proofs.Yticdlckidjjaeaa.IA Go.Proofs.Yticdlckidjjaeaa.Hand
theorem dsum_len {α : Type} (b : α → Nat) (l : List α) (h : ∀ a, 1 ≤ b a) : l.length ≤ Open.sumOf b l := by
  induction l with
  | nil => exact Nat.le_refl _
  | cons a l ih => have := h a; simp only [Open.sumOf, List.length_cons]; omega
theorem sets_row (y : S58) {n : Nat} (hb : (Open.sumOf (fun x : Pr => 1 + 1 + 1) y.f0 + 1) + ((Open.sumOf (fun x : Pr => 1 + 1 + 1) y.f1 + 1) + ((1 + 1 + 1) + (Open.sumOf (fun _ : Int => 1) y.f3 + 1))) + 1 ≤ n) (hn : n ≤ 1048576)
    (hg : (∀ a ∈ y.f0, (Lit.int .i64 a.f0).wf = true ∧ (Lit.int .i64 a.f1).wf = true) ∧ (∀ a ∈ y.f1, (Lit.int .i64 a.f0).wf = true ∧ (Lit.int .i64 a.f1).wf = true) ∧ ((Lit.int .i64 y.f2.f0).wf = true ∧ (Lit.int .i64 y.f2.f1).wf = true) ∧ (∀ a ∈ y.f3, (Lit.int .i64 a).wf = true)) :
    ∃ k, ∃ n u o D E W, SetsFacts k y.f0 y.f1 y.f2 y.f3 n u o D E W := by
  have h0 := dsum_len (fun x : Pr => 1 + 1 + 1) y.f0 (fun _ => by omega)
  have h1 := dsum_len (fun x : Pr => 1 + 1 + 1) y.f1 (fun _ => by omega)
  have h2 := dsum_len (fun _ : Int => 1) y.f3 (fun _ => Nat.le_refl _)
  exact sets_facts y.f0 y.f1 y.f2 y.f3 ⟨by omega, hg.1⟩ ⟨by omega, hg.2.1⟩ ⟨by omega, hg.2.2.2⟩
end Go.Proofs.Yticdlckidjjaeaa.Plain
