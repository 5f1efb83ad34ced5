/- Kinds of plain data that come from outside: a generator's state. -/
import Derived.Test.YteomkgcepiecjaaGreatZLawT
import Derived.Test.YteomkgcepiecjaaGreatZGen1
namespace Go.Proofs.YteomkgcepiecjaaGreat.I
open Go
set_option linter.unusedSimpArgs false
set_option linter.unusedVariables false
theorem pair_dm {x z : Nat} (hz : z < 18446744073709551616) : (x * 18446744073709551616 + z) / 18446744073709551616 = x ∧ (x * 18446744073709551616 + z) % 18446744073709551616 = z := by
  constructor <;> omega
end Go.Proofs.YteomkgcepiecjaaGreat.I
