-- Written by a program of ours for this claim (wip/tools/inj.py over the kit's print.py): Lean checks it.
import Derived.Test.YtdaoiacniclnnaaDoorIAx0
import Derived.Test.YtdaoiacniclnnaaDoorIAx1
import Derived.Test.YtdaoiacniclnnaaDoorKind
namespace Go.Proofs.YtdaoiacniclnnaaDoor.IA
open Go.RowKit Go.Proofs.YtdaoiacniclnnaaDoorW.PrintWords Go.Proofs.YtdaoiacniclnnaaDoorW.PrintLast Go.Proofs.YtdaoiacniclnnaaDoorW.PrintMore
attribute [local go_sem] max2_int min2_int max_two min_two max_three min_three max_four min_four   -- for this text's walks alone
set_option linter.unusedVariables false
set_option linter.unusedSimpArgs false

theorem eqA45 (d : Nat) (w : World) (x0 y0 : ByteArray) (x1 y1 : Int) (x2 y2 : Int) (x3 y3 : Int) :
    (Op.equalIn (d + 3) 45 (.agg #[.string x0, .int .i64 x1, .int .i64 x2, .int .i64 x3]) (.agg #[.string y0, .int .i64 y1, .int .i64 y2, .int .i64 y3])).run Tryd.prog w = .ok (x0.toList == y0.toList && ((x1 == y1 && (x2 == y2 && (x3 == y3))))) w := by
  refine eqA_of Tryd.underlying45 (by kernel_rfl) ?_
  refine eqf_cons (by rfl) (by go_simp; rfl) (by go_simp; rfl) (by go_simp) ?_
  exact eqf_last (by rfl) (by go_simp) (by go_simp) (eqA33 (d + 0) w _ _ _ _ _ _)
end Go.Proofs.YtdaoiacniclnnaaDoor.IA
