/- Each limit and kind has its number; without any condition (a closed statement). -/
import Derived.Test.YtkojcnhmafdpoaaPApiLimitsx1
namespace Go.Proofs.Ytkojcnhmafdpoaa.Pure
open Go.RowKit Go.Proofs.Ytkojcnhmafdpoaa.PApiLimits Go.Proofs.YtkojcnhmafdpoaaW.PrintWords Go.Proofs.YtkojcnhmafdpoaaW.PrintLast

theorem ApiLimits : lemmatop_ApiLimits.Pure := by
  exact ⟨100, by decide +kernel⟩

end Go.Proofs.Ytkojcnhmafdpoaa.Pure
