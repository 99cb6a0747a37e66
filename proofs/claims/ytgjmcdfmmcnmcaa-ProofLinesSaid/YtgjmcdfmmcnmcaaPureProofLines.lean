/- A proof's text is lines of at most MaxLine bytes, each as full as it can be, and the letters of a packed one stand on lines of their own, MaxLine each; for all arguments, without any condition. -/
import Derived.Test.YtgjmcdfmmcnmcaaP6
namespace Go.Proofs.Ytgjmcdfmmcnmcaa.Pure
theorem ProofLines : Go.Proofs.Ytgjmcdfmmcnmcaa.IA.lemmalaw10_ProofLines.Pure := Go.Proofs.Ytgjmcdfmmcnmcaa.Plain.ProofLines
end Go.Proofs.Ytgjmcdfmmcnmcaa.Pure
