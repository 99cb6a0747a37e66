/- scan's kind, as the printed texts take it, and Place. -/
import Derived.Test.YtgjmcdfmmcnmcaaDoorScBlank
import Derived.Test.YtgjmcdfmmcnmcaaDoorStrs
set_option linter.unusedVariables false
set_option linter.unusedSimpArgs false
namespace Go.Proofs.YtgjmcdfmmcnmcaaDoor.Scn
open Go.RowKit Go.Proofs.YtgjmcdfmmcnmcaaDoorW.PrintWords Go.Proofs.YtgjmcdfmmcnmcaaDoorW.PrintMore Go.Proofs.YtgjmcdfmmcnmcaaDoor.IA

/-- What is laid: the table of blanks; and internal/bytealg.MaxLen holds a number. -/
def Tabs (w : World) : Prop := Blanks w ∧ ∃ m, w.cell? ⟨4, 0, none⟩ = some (.int .i64 m)
theorem Tabs_below {w W : World} (h : Tabs w) (hb : Below w.heap.size w W) : Tabs W := by
  obtain ⟨h1, m, h2⟩ := h
  exact ⟨fun i hi => (hb.cell (World.block_lt_of_cell? w _ (h1 i hi))).trans (h1 i hi), m, (hb.cell (World.block_lt_of_cell? w _ h2)).trans h2⟩

def scan_kind.f (a0 : Int) : Option Int := if 0 ≤ a0 ∧ a0 ≤ 255 then some (kindN a0) else none
theorem scan_kind.calls (a0 : Int) (r : Int) (w : World) (hT : Tabs w) (h : scan_kind.f a0 = some r) :
    Calls Tryd.prog 61 #[.int .u8 a0] w fun e w' => e = .returned (.int .i64 r) ∧ ∃ nd, w' = w.drewN nd := by
  unfold scan_kind.f at h
  by_cases h0 : 0 ≤ a0 ∧ a0 ≤ 255
  · rw [if_pos h0] at h
    obtain rfl := Option.some.inj h
    refine (kind_walk a0 h0.1 h0.2 w hT.1).mono ?_
    rintro e w' ⟨rfl, rfl⟩
    exact ⟨rfl, 0, rfl⟩
  · rw [if_neg h0] at h; cases h

end Go.Proofs.YtgjmcdfmmcnmcaaDoor.Scn
