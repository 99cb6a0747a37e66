/- What each statement without the reference asks first: the chapter's third example. -/
import Derived.Test.YtdaoiacniclnnaaDoorRefS
set_option linter.unusedVariables false
set_option linter.unusedSimpArgs false
namespace Go.Proofs.YtdaoiacniclnnaaDoor.Hand
open Go.RowKit Go.Shelf Go.Proofs.YtdaoiacniclnnaaDoorW.PrintWords Go.Proofs.YtdaoiacniclnnaaDoorW.PrintMore Go.Proofs.YtdaoiacniclnnaaDoor.IA

def aliveText : ByteArray := ⟨#[97, 32, 36, 40, 32, 98, 32, 99, 32, 36, 41, 32, 100]⟩
def aliveOut : List S45 := [⟨⟨#[97]⟩, ⟨0, 1, 1⟩⟩, ⟨⟨#[100]⟩, ⟨12, 1, 13⟩⟩]
theorem alive_run : scanOut (scanRun ⟨[], none⟩ (itemsL aliveText)) = (aliveOut, none) := by kernel_rfl

set_option maxHeartbeats 4000000 in
set_option maxRecDepth 100000 in
theorem alive_walk (w : World) (hT : Tabs w) : Calls Tryd.prog 31 #[] w fun en w' => en = .returned (.bool true) ∧ Below w.heap.size w w' := by
  have hu45 := Tryd.underlying45
  have HP := Lib.hid (scan_two aliveText w (by decide) hT)
  rw [alive_run] at HP
  go_enter Tryd.func31, Tryd.ntmps31
  go_wp2_with (go_at_call 27; go_loud (refine HP.out.mono ?_; rintro en w1 ⟨v1, fp1, rfl, hR1, hF1, hB1⟩; obtain rfl := hF1; obtain ⟨A1, c1, rfl, hc1, hC1⟩ := Kd.R_reads hR1; obtain ⟨ad, hA, hx0, hx1, hx2, hx3⟩ := at_T45 hC1 0 (by decide) (by decide); cases hA; obtain ⟨ad', hA', hy0, hy1, hy2, hy3⟩ := at_T45 hC1 1 (by decide) (by decide); cases hA'; have e1 : rd_T45 aliveOut 0 = ⟨⟨#[97]⟩, ⟨0, 1, 1⟩⟩ := rfl; have e2 : rd_T45 aliveOut 1 = ⟨⟨#[100]⟩, ⟨12, 1, 13⟩⟩ := rfl; rw [e1] at hx0 hx1 hx2 hx3; rw [e2] at hy0 hy1 hy2 hy3; have el : aliveOut.length = 2 := rfl; replace hx0 : w1.cell? ad = some (.string ⟨#[97]⟩) := hx0; replace hy0 : w1.cell? ⟨ad.block, ad.off + 4, none⟩ = some (.string ⟨#[100]⟩) := hy0; replace hy1 : w1.cell? ⟨ad.block, ad.off + 5, none⟩ = some (.int .i64 12) := hy1; replace hy2 : w1.cell? ⟨ad.block, ad.off + 6, none⟩ = some (.int .i64 1) := hy2; replace hy3 : w1.cell? ⟨ad.block, ad.off + 7, none⟩ = some (.int .i64 13) := hy3; clear hx1 hx2 hx3))
  go_ret
  exact ⟨rfl, hB1⟩
end Go.Proofs.YtdaoiacniclnnaaDoor.Hand
