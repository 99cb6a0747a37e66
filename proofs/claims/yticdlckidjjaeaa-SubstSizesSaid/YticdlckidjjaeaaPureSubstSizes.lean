/- n times a variable that stands for m symbols: Size tells it, saturated, and Apply answers just then: for every two numbers. -/
import Derived.Test.YticdlckidjjaeaaQSz
namespace Go.Proofs.Yticdlckidjjaeaa.Pure
open Go.RowKit Go.Proofs.Yticdlckidjjaeaa.IA Go.Proofs.YticdlckidjjaeaaW.PrintWords
theorem SubstSizes : lemmalaw04_SubstSizes.Pure := fun a0 a1 _ _ => Go.Proofs.Yticdlckidjjaeaa.Plain.sizes a0 a1
end Go.Proofs.Yticdlckidjjaeaa.Pure
