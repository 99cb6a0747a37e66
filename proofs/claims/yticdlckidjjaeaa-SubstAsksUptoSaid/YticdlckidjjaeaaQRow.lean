/- What the bulk of binds bounds. -/
import Derived.Test.YticdlckidjjaeaaOpn
import Derived.Test.YticdlckidjjaeaaQ1
set_option linter.unusedVariables false
namespace Go.Proofs.Yticdlckidjjaeaa.Plain
open Go.RowKit Go.Proofs.Yticdlckidjjaeaa.IA Go.Proofs.Yticdlckidjjaeaa.Hand Go.Proofs.YticdlckidjjaeaaW.PrintWords
theorem sumOf_len {α : Type} (b : α → Nat) (l : List α) (h : ∀ a, 1 ≤ b a) : l.length ≤ Open.sumOf b l := by
  induction l with
  | nil => exact Nat.le_refl _
  | cons a l ih => have := h a; simp only [Open.sumOf, List.length_cons]; omega
theorem sumOf_mem {α : Type} (b : α → Nat) (l : List α) (a : α) (h : a ∈ l) : b a ≤ Open.sumOf b l := by
  induction l with
  | nil => cases h
  | cons c l ih =>
    simp only [Open.sumOf]
    rcases List.mem_cons.1 h with rfl | h
    · omega
    · have := ih h; omega
theorem ok_bulk (l : List Bind) (h : Open.sumOf (fun x : Bind => 1 + (Open.sumOf (fun _ => 1) x.f1 + 1) + 1) l ≤ 1048576) : OkB l := by
  have h1 := sumOf_len (fun x : Bind => 1 + (Open.sumOf (fun _ => 1) x.f1 + 1) + 1) l (fun a => by omega)
  refine ⟨by omega, fun x hx => ?_⟩
  have h2 := sumOf_mem (fun x : Bind => 1 + (Open.sumOf (fun _ => 1) x.f1 + 1) + 1) l x hx
  have h3 := sumOf_len (fun _ : Int => 1) x.f1 (fun _ => Nat.le_refl _)
  omega
theorem len_bulk (l : List Bind) (h : Open.sumOf (fun x : Bind => 1 + (Open.sumOf (fun _ => 1) x.f1 + 1) + 1) l ≤ 1048576) : l.length ≤ 1048576 := by
  have h1 := sumOf_len (fun x : Bind => 1 + (Open.sumOf (fun _ => 1) x.f1 + 1) + 1) l (fun a => by omega)
  omega
end Go.Proofs.Yticdlckidjjaeaa.Plain
