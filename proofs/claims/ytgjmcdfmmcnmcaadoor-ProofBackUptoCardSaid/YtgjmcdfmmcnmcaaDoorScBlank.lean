/- scan's kind: what it tells. -/
import Derived.Test.YtgjmcdfmmcnmcaaDoorIAx0
import Derived.Lib.Hide

set_option linter.unusedVariables false
set_option linter.unusedSimpArgs false
namespace Go.Proofs.YtgjmcdfmmcnmcaaDoor.Scn
open Go.RowKit Go.Proofs.YtgjmcdfmmcnmcaaDoorW.PrintWords Go.Proofs.YtgjmcdfmmcnmcaaDoorW.PrintMore Go.Proofs.YtgjmcdfmmcnmcaaDoor.IA

def kindN (c : Int) : Int := if 33 ≤ c ∧ c ≤ 126 then 2 else if c = 9 ∨ c = 10 ∨ c = 12 ∨ c = 13 ∨ c = 32 then 1 else 0
/-- The table of blanks, as its text lays it. -/
def Blanks (w : World) : Prop := ∀ i : Nat, i < 33 → w.cell? ⟨3, i, none⟩ = some (.bool (decide (i = 9 ∨ i = 10 ∨ i = 12 ∨ i = 13 ∨ i = 32)))

set_option maxHeartbeats 4000000 in
set_option maxRecDepth 100000 in
theorem kind_walk (c : Int) (h0 : 0 ≤ c) (hc : c ≤ 255) (w : World) (hB : Blanks w) : Calls Tryd.prog 61 #[.int .u8 c] w fun e w' => e = .returned (.int .i64 (kindN c)) ∧ w' = w := by
  have hw : wrap64 c = c := by unfold wrap64; omega
  unfold kindN
  by_cases h1 : 33 ≤ c
  · have d1 : decide (c ≥ 33) = true := decide_eq_true h1
    by_cases h2 : c ≤ 126
    · have d2 : decide (c ≤ 126) = true := decide_eq_true h2
      rw [if_pos ⟨h1, h2⟩]
      go_enter Tryd.func61, Tryd.ntmps61
      go_wp2
      go_ret
      simp
    · have d2 : decide (c ≤ 126) = false := decide_eq_false h2
      have d3 : decide (c < 33) = false := decide_eq_false (by omega)
      rw [if_neg (by omega), if_neg (by omega)]
      go_enter Tryd.func61, Tryd.ntmps61
      go_wp2
      go_ret
      simp
  · have d1 : decide (c ≥ 33) = false := decide_eq_false (by omega)
    have d3 : decide (c < 33) = true := decide_eq_true (by omega)
    obtain ⟨i, rfl⟩ := Int.eq_ofNat_of_zero_le h0
    have hb := hB i (by omega)
    rw [if_neg (by omega)]
    by_cases h2 : i = 9 ∨ i = 10 ∨ i = 12 ∨ i = 13 ∨ i = 32
    · rw [decide_eq_true h2] at hb
      rw [if_pos (by omega)]
      go_enter Tryd.func61, Tryd.ntmps61
      go_wp2
      go_ret
      simp
    · rw [decide_eq_false h2] at hb
      rw [if_neg (by omega)]
      go_enter Tryd.func61, Tryd.ntmps61
      go_wp2
      go_ret
      simp
end Go.Proofs.YtgjmcdfmmcnmcaaDoor.Scn
