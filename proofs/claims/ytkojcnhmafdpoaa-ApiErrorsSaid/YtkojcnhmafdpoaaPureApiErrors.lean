/- Each error's constant has its number, and is an Errno; without any condition (a closed statement). -/
import Derived.Test.YtkojcnhmafdpoaaPApiErrorsx1
namespace Go.Proofs.Ytkojcnhmafdpoaa.Pure
open Go.RowKit Go.Proofs.Ytkojcnhmafdpoaa.PApiErrors Go.Proofs.YtkojcnhmafdpoaaW.PrintWords Go.Proofs.YtkojcnhmafdpoaaW.PrintLast

theorem ApiErrors : lemmatop_ApiErrors.Pure := by
  exact ⟨100, by decide +kernel⟩

end Go.Proofs.Ytkojcnhmafdpoaa.Pure
