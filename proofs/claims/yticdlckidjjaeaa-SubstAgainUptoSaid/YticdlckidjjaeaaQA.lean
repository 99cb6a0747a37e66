/- The chapter's example. -/
import Derived.Test.YticdlckidjjaeaaIAx1
import Derived.Test.YticdlckidjjaeaaQ1
set_option linter.unusedVariables false
set_option linter.unusedSimpArgs false
namespace Go.Proofs.Yticdlckidjjaeaa.Plain
open Go.RowKit Go.Proofs.Yticdlckidjjaeaa.IA Go.Proofs.Yticdlckidjjaeaa.Hand Go.Proofs.YticdlckidjjaeaaW.PrintWords Go.Proofs.YticdlckidjjaeaaW.PrintMore
def lA : List Bind := [⟨7, [1, 8]⟩, ⟨8, []⟩]
theorem alive_ev : Ev (fun k => lemmalaw04_alive.f k) true := by
  have hn : NodupK lA := by unfold NodupK lA; decide
  have ho : OkB lA := by unfold lA; decide
  have hl : lA.length ≤ 1099511627776 := ho.1
  have h1 : subst_New.f lA = some (sortB lA, 0) := new_ok ho hn
  have h2 : subst_Apply.f (sortB lA) [2, 7, 8, 7, 9] = some ([2, 1, 8, 1, 8, 9], 0) := by rw [apply_sorted hl hn]; rfl
  have h3 : subst_Size.f (sortB lA) [7, 7] = some 4 := by rw [size_sorted hl hn]; rfl
  obtain ⟨K, hK⟩ := same_ev [2, 1, 8, 1, 8, 9] (by simp)
  refine ⟨K, fun k hk => ?_⟩
  unfold lemmalaw04_alive.f
  have h1' := h1
  unfold lA at h1'
  rw [h1']
  simp only [Option.bind_some]
  have h2' := h2
  unfold lA at h2'
  rw [h2']
  simp only [Option.bind_some, lemmalaw04_num.f]
  rw [if_pos trivial, if_pos trivial]
  have := hK k hk
  simp only at this
  rw [this]
  simp only [Option.bind_some]
  rw [if_pos trivial]
  have h3' := h3
  unfold lA at h3'
  rw [h3']
  rfl
end Go.Proofs.Yticdlckidjjaeaa.Plain
