/- DistThen over its three parameters. -/
import Derived.Test.YticdlckidjjaeaaBTW
import Derived.Test.YticdlckidjjaeaaOpn
set_option linter.unusedVariables false
namespace Go.Proofs.Yticdlckidjjaeaa.Hand
open Go.RowKit Go.Proofs.YticdlckidjjaeaaW.PrintWords Go.Proofs.YticdlckidjjaeaaW.PrintMore Go.Proofs.Yticdlckidjjaeaa.IA Go.Proofs.Yticdlckidjjaeaa.Plain
set_option maxRecDepth 100000 in
theorem dthen_calls (k : Nat) (Z0 : Option Addr) (k0 : Nat) (L : List Pr) (Z1 : Option Addr) (k1 : Nat) (S : List Bind) (Z2 : Option Addr) (k2 : Nat) (T : List Bind) (_r : Bool) (w : World) (hr0 : Kd.C k56 w Z0 L.length L) (hc0 : L.length ≤ k0) (hr1 : Kd.C k41 w Z1 S.length S) (hc1 : S.length ≤ k1) (hr2 : Kd.C k41 w Z2 T.length T) (hc2 : T.length ≤ k2)
    (h : ∃ U s e t f u g X bd fn Y bd2 fn2, ThenFacts k L S T U s e t f u g X bd fn Y bd2 fn2) :
    Calls Try.prog 12 #[.slice Z0 L.length k0, .slice Z1 S.length k1, .slice Z2 T.length k2] w fun en w' => en = .returned (.bool true) ∧ Below w.heap.size w w' := by
  obtain ⟨U, s, e, t, f, u, g, X, bd, fn, Y, bd2, fn2, F⟩ := h
  exact thens_walk Z0 k0 L Z1 k1 S Z2 k2 T w hr0 hc0 hr1 hc1 hr2 hc2 k U s e t f u g X bd fn Y bd2 fn2 F
end Go.Proofs.Yticdlckidjjaeaa.Hand
namespace Go.Proofs.Yticdlckidjjaeaa.Plain
open Go.RowKit Go.Proofs.Yticdlckidjjaeaa.IA Go.Proofs.Yticdlckidjjaeaa.Hand
theorem tsum_len {α : Type} (b : α → Nat) (l : List α) (h : ∀ a, 1 ≤ b a) : l.length ≤ Open.sumOf b l := by
  induction l with
  | nil => exact Nat.le_refl _
  | cons a l ih => have := h a; simp only [Open.sumOf, List.length_cons]; omega
theorem tflat_len {α : Type} (g : α → List Int) (b : α → Nat) (l : List α) (h : ∀ a, (g a).length ≤ b a) : (l.flatMap g).length ≤ Open.sumOf b l := by
  induction l with
  | nil => exact Nat.le_refl _
  | cons a l ih => have := h a; simp only [Open.sumOf, List.flatMap_cons, List.length_append]; omega
theorem tflat_mem {α : Type} (g : α → List Int) (l : List α) {a : α} (h : a ∈ l) : (g a).length ≤ (l.flatMap g).length := by
  induction l with
  | nil => cases h
  | cons b l ih =>
    rw [List.flatMap_cons, List.length_append]
    rcases List.mem_cons.1 h with rfl | h
    · omega
    · have := ih h; omega
theorem dthen_row (L : List Pr) (S T : List Bind) {n0 n1 n2 : Nat} (hb0 : Open.sumOf (fun x : Pr => 1 + 1 + 1) L + 1 ≤ n0) (hb1 : Open.sumOf (fun x : Bind => 1 + (Open.sumOf (fun _ : Int => 1) x.f1 + 1) + 1) S + 1 ≤ n1) (hb2 : Open.sumOf (fun x : Bind => 1 + (Open.sumOf (fun _ : Int => 1) x.f1 + 1) + 1) T + 1 ≤ n2) (hn : n0 + n1 + n2 ≤ 1048576)
    (hg0 : ∀ a ∈ L, (Lit.int .i64 a.f0).wf = true ∧ (Lit.int .i64 a.f1).wf = true) (hg1 : ∀ a ∈ S, (Lit.int .i64 a.f0).wf = true ∧ ∀ a' ∈ a.f1, (Lit.int .i64 a').wf = true) (hg2 : ∀ a ∈ T, (Lit.int .i64 a.f0).wf = true ∧ ∀ a' ∈ a.f1, (Lit.int .i64 a').wf = true) :
    ∃ k, ∃ U s e t f u g X bd fn Y bd2 fn2, ThenFacts k L S T U s e t f u g X bd fn Y bd2 fn2 := by
  have h0 := tflat_len (fun p : Pr => [p.f0, p.f1]) (fun x : Pr => 1 + 1 + 1) L (fun p => by simp)
  have h1 := tflat_len (fun b : Bind => b.f1) (fun x : Bind => 1 + (Open.sumOf (fun _ : Int => 1) x.f1 + 1) + 1) S (fun b => by have := tsum_len (fun _ : Int => 1) b.f1 (fun _ => Nat.le_refl _); omega)
  have h2 := tflat_len (fun b : Bind => b.f1) (fun x : Bind => 1 + (Open.sumOf (fun _ : Int => 1) x.f1 + 1) + 1) T (fun b => by have := tsum_len (fun _ : Int => 1) b.f1 (fun _ => Nat.le_refl _); omega)
  have l0 := tsum_len (fun x : Pr => 1 + 1 + 1) L (fun _ => by omega)
  have l1 := tsum_len (fun x : Bind => 1 + (Open.sumOf (fun _ : Int => 1) x.f1 + 1) + 1) S (fun _ => by omega)
  have l2 := tsum_len (fun x : Bind => 1 + (Open.sumOf (fun _ : Int => 1) x.f1 + 1) + 1) T (fun _ => by omega)
  have hS : ∀ b ∈ S, b.f1.length ≤ 1048576 := fun b hb => by have := tflat_mem (fun b : Bind => b.f1) S hb; omega
  have hT : ∀ b ∈ T, b.f1.length ≤ 1048576 := fun b hb => by have := tflat_mem (fun b : Bind => b.f1) T hb; omega
  obtain ⟨k, s, e, t, f, u, g, X, bd, fn, Y, bd2, fn2, F⟩ := then_facts L S T (L.flatMap (fun p : Pr => [p.f0, p.f1]) ++ (S.flatMap (fun b : Bind => b.f1) ++ T.flatMap (fun b : Bind => b.f1))) (by rw [List.length_append, List.length_append]; omega)
    ⟨by omega, fun b hb => by have := hS b hb; omega⟩ ⟨by omega, fun b hb => by have := hT b hb; omega⟩ (by omega) (by omega) hS
    (fun b hb x hx => ⟨List.mem_append_right _ (List.mem_append_left _ (List.mem_flatMap.2 ⟨b, hb, hx⟩)), (hg1 b hb).2 x hx⟩) hT
    (fun b hb x hx => ⟨List.mem_append_right _ (List.mem_append_right _ (List.mem_flatMap.2 ⟨b, hb, hx⟩)), (hg2 b hb).2 x hx⟩)
    (fun p hp => ⟨⟨List.mem_append_left _ (List.mem_flatMap.2 ⟨p, hp, by simp⟩), (hg0 p hp).1⟩, ⟨List.mem_append_left _ (List.mem_flatMap.2 ⟨p, hp, by simp⟩), (hg0 p hp).2⟩⟩) (by omega)
  exact ⟨k, _, s, e, t, f, u, g, X, bd, fn, Y, bd2, fn2, F⟩
end Go.Proofs.Yticdlckidjjaeaa.Plain
