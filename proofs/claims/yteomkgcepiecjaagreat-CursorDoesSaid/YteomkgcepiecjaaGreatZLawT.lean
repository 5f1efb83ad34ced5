/- Kinds of plain data that come from outside: two words, a state of four. -/
import Derived.Test.YteomkgcepiecjaaGreatZLawG
import Derived.Test.YteomkgcepiecjaaGreatZG4
namespace Go.Proofs.YteomkgcepiecjaaGreat.I
open Go
set_option linter.unusedSimpArgs false
set_option linter.unusedVariables false
theorem cov_w : Cov 2 true (.seq [.n .u64, .n .u64]) tW := fun y hw hf h => by
  obtain ⟨cs, rfl, _⟩ := fits_agg hf
  simp only [V.cells, Sh.ok, oks] at h
  obtain ⟨a, b, rfl, ⟨x, rfl⟩, c, d, rfl, ⟨z, rfl⟩, rfl⟩ := h
  have hz : z < 18446744073709551616 := hw.2.1
  refine ⟨x * 18446744073709551616 + z, ?_⟩
  rw [tW_enc, show (x * 18446744073709551616 + z) / 18446744073709551616 = x by omega, show (x * 18446744073709551616 + z) % 18446744073709551616 = z by omega]
  rfl
end Go.Proofs.YteomkgcepiecjaaGreat.I
