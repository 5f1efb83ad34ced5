/- Chapter 14: awake. -/
import Derived.Test.YteomkgcepiecjaaGreatZSeed2
import Derived.Test.YteomkgcepiecjaaGreatZGenM
namespace Go.Proofs.YteomkgcepiecjaaGreat.I
open Go
set_option maxRecDepth 10000
set_option linter.unusedSimpArgs false
set_option linter.unusedVariables false
theorem e14_c3 : gjump (snew 1 0) 3 = ⟨1, 15755400384260043839, ⟨0, 0, 0, 0⟩, ⟨0, 0⟩, ⟨0, ⟨0, 0⟩, false⟩⟩ := by decide +kernel
theorem e14_l1 : glim 1 = 9223372036854775808 := by decide +kernel
end Go.Proofs.YteomkgcepiecjaaGreat.I
