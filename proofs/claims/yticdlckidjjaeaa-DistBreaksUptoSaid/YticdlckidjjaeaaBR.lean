/- DistBreaks over its two parameters. -/
import Derived.Test.YticdlckidjjaeaaBW0
import Derived.Test.YticdlckidjjaeaaBW1
import Derived.Test.YticdlckidjjaeaaOpn
set_option linter.unusedVariables false
namespace Go.Proofs.Yticdlckidjjaeaa.IA
open Go.RowKit Go.Proofs.YticdlckidjjaeaaW.PrintWords Go.Proofs.YticdlckidjjaeaaW.PrintMore
structure S84 where
  f0 : List S56
  f1 : List S41
  f2 : List S56
  f3 : Int
  f4 : Int
def k84 : Kd S84 := Kd.iso (Kd.pair (Kd.slice 56 k56) (Kd.pair (Kd.slice 41 k41) (Kd.pair (Kd.slice 56 k56) (Kd.pair (Kd.int .i64) (Kd.int .i64))))) (fun x : S84 => (x.f0, x.f1, x.f2, x.f3, x.f4))
theorem k84_open {w : World} {x : S84} {cs : List Value} (h : k84.K w x cs) : ∃ A0 c0 A1 c1 A2 c2, cs = [.slice A0 x.f0.length c0, .slice A1 x.f1.length c1, .slice A2 x.f2.length c2, .int .i64 x.f3, .int .i64 x.f4] ∧ x.f0.length ≤ c0 ∧ k56.C w A0 x.f0.length x.f0 ∧ x.f1.length ≤ c1 ∧ k41.C w A1 x.f1.length x.f1 ∧ x.f2.length ≤ c2 ∧ k56.C w A2 x.f2.length x.f2 := by
  obtain ⟨a, b, rfl, ⟨A0, c0, rfl, l0, g0⟩, ⟨a1, b1, rfl, ⟨A1, c1, rfl, l1, g1⟩, ⟨a2, b2, rfl, ⟨A2, c2, rfl, l2, g2⟩, ⟨a3, b3, rfl, h3, h4⟩⟩⟩⟩ := h
  obtain rfl := h3
  obtain rfl := h4
  exact ⟨A0, c0, A1, c1, A2, c2, rfl, l0, g0, l1, g1, l2, g2⟩
end Go.Proofs.Yticdlckidjjaeaa.IA
namespace Go.Proofs.Yticdlckidjjaeaa.Hand
open Go.RowKit Go.Proofs.YticdlckidjjaeaaW.PrintWords Go.Proofs.YticdlckidjjaeaaW.PrintMore Go.Proofs.Yticdlckidjjaeaa.IA Go.Proofs.Yticdlckidjjaeaa.Plain
set_option maxRecDepth 100000 in
theorem breaks_calls (k : Nat) {S0 : Option Addr} {k0 : Nat} {S1 : Option Addr} {k1 : Nat} {S2 : Option Addr} {k2 : Nat} (y : S84) (drop : Int) (_r : Bool) (w : World) (q0 : Kd.C k56 w S0 y.f0.length y.f0) (z0 : y.f0.length ≤ k0) (q1 : Kd.C k41 w S1 y.f1.length y.f1) (z1 : y.f1.length ≤ k1) (q2 : Kd.C k56 w S2 y.f2.length y.f2) (z2 : y.f2.length ≤ k2)
    (h : okI drop ∧ ∃ U B e X bd fn P br d less, BreaksFacts k y.f3 y.f4 y.f0 y.f1 y.f2 drop U B e X bd fn P br d less) :
    Calls Try.prog 11 #[.agg #[.slice S0 y.f0.length k0, .slice S1 y.f1.length k1, .slice S2 y.f2.length k2, .int .i64 y.f3, .int .i64 y.f4], .int .i64 drop] w fun en w' => en = .returned (.bool true) ∧ Below w.heap.size w w' := by
  obtain ⟨hd, U, B, e, X, bd, fn, P, br, d, less, F⟩ := h
  rcases F.err with he | he
  · exact breaks_walk0 S0 k0 y.f0 S1 k1 y.f1 S2 k2 y.f2 y.f3 y.f4 drop w q0 z0 q1 z1 q2 z2 hd k U B e X bd fn P br d less F he
  · exact breaks_walk1 S0 k0 y.f0 S1 k1 y.f1 S2 k2 y.f2 y.f3 y.f4 drop w q0 z0 q1 z1 q2 z2 hd k U B e X bd fn P br d less F he
end Go.Proofs.Yticdlckidjjaeaa.Hand
namespace Go.Proofs.Yticdlckidjjaeaa.Plain
open Go.RowKit Go.Proofs.Yticdlckidjjaeaa.IA Go.Proofs.Yticdlckidjjaeaa.Hand
theorem dsum_len {α : Type} (b : α → Nat) (l : List α) (h : ∀ a, 1 ≤ b a) : l.length ≤ Open.sumOf b l := by
  induction l with
  | nil => exact Nat.le_refl _
  | cons a l ih => have := h a; simp only [Open.sumOf, List.length_cons]; omega
theorem flat_len {α : Type} (g : α → List Int) (b : α → Nat) (l : List α) (h : ∀ a, (g a).length ≤ b a) : (l.flatMap g).length ≤ Open.sumOf b l := by
  induction l with
  | nil => exact Nat.le_refl _
  | cons a l ih => have := h a; simp only [Open.sumOf, List.flatMap_cons, List.length_append]; omega
theorem flat_mem {α : Type} (g : α → List Int) (l : List α) {a : α} (h : a ∈ l) : (g a).length ≤ (l.flatMap g).length := by
  induction l with
  | nil => cases h
  | cons b l ih =>
    rw [List.flatMap_cons, List.length_append]
    rcases List.mem_cons.1 h with rfl | h
    · omega
    · have := ih h; omega
theorem breaks_row (y : S84) (drop : Int) (hdr : (Lit.int .i64 drop).wf = true) {n : Nat} (hb : (Open.sumOf (fun x : Pr => 1 + 1 + 1) y.f0 + 1) + ((Open.sumOf (fun x : Bind => 1 + (Open.sumOf (fun _ : Int => 1) x.f1 + 1) + 1) y.f1 + 1) + ((Open.sumOf (fun x : Pr => 1 + 1 + 1) y.f2 + 1) + (1 + 1))) + 1 ≤ n) (hn : n ≤ 1048576)
    (hg : (∀ a ∈ y.f0, (Lit.int .i64 a.f0).wf = true ∧ (Lit.int .i64 a.f1).wf = true) ∧ (∀ a ∈ y.f1, (Lit.int .i64 a.f0).wf = true ∧ ∀ a' ∈ a.f1, (Lit.int .i64 a').wf = true) ∧ (∀ a ∈ y.f2, (Lit.int .i64 a.f0).wf = true ∧ (Lit.int .i64 a.f1).wf = true) ∧ (Lit.int .i64 y.f3).wf = true ∧ (Lit.int .i64 y.f4).wf = true) :
    ∃ k, okI drop ∧ ∃ U B e X bd fn P br d less, BreaksFacts k y.f3 y.f4 y.f0 y.f1 y.f2 drop U B e X bd fn P br d less := by
  have h0 := flat_len (fun p : Pr => [p.f0, p.f1]) (fun x : Pr => 1 + 1 + 1) y.f0 (fun p => by simp)
  have h1 := flat_len (fun b : Bind => b.f1) (fun x : Bind => 1 + (Open.sumOf (fun _ : Int => 1) x.f1 + 1) + 1) y.f1 (fun b => by have := dsum_len (fun _ : Int => 1) b.f1 (fun _ => Nat.le_refl _); omega)
  have l0 := dsum_len (fun x : Pr => 1 + 1 + 1) y.f0 (fun _ => by omega)
  have l1 := dsum_len (fun x : Bind => 1 + (Open.sumOf (fun _ : Int => 1) x.f1 + 1) + 1) y.f1 (fun _ => by omega)
  have l2 := dsum_len (fun x : Pr => 1 + 1 + 1) y.f2 (fun _ => by omega)
  have hU : (y.f0.flatMap (fun p : Pr => [p.f0, p.f1]) ++ y.f1.flatMap (fun b : Bind => b.f1)).length ≤ 1048576 := by rw [List.length_append]; omega
  have hS : ∀ b ∈ y.f1, b.f1.length ≤ 1048576 := fun b hb => by have := flat_mem (fun b : Bind => b.f1) y.f1 hb; omega
  obtain ⟨k, B, e, X, bd, fn, P, br, d, less, F⟩ := breaks_facts y.f3 y.f4 y.f0 y.f1 y.f2 drop _ hg.2.2.2.1 hU ⟨by omega, fun b hb => by have := hS b hb; omega⟩ hS
    (fun b hb x hx => ⟨List.mem_append_right _ (List.mem_flatMap.2 ⟨b, hb, hx⟩), (hg.2.1 b hb).2 x hx⟩)
    (fun p hp => ⟨⟨List.mem_append_left _ (List.mem_flatMap.2 ⟨p, hp, by simp⟩), (hg.1 p hp).1⟩, ⟨List.mem_append_left _ (List.mem_flatMap.2 ⟨p, hp, by simp⟩), (hg.1 p hp).2⟩⟩) (by omega) (fun p hp => hg.2.2.1 p hp) (by omega)
  exact ⟨k, hdr, _, B, e, X, bd, fn, P, br, d, less, F⟩
end Go.Proofs.Yticdlckidjjaeaa.Plain
