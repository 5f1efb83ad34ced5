/- Kinds of plain data that come from outside: acts of chapter 16. -/
import Derived.Test.YteomkgcepiecjaaGreatZLawS
import Derived.Test.YteomkgcepiecjaaGreatZLaw16a
namespace Go.Proofs.YteomkgcepiecjaaGreat.I
open Go
set_option linter.unusedSimpArgs false
set_option linter.unusedVariables false
theorem cov_Ac : Cov 3 true (.seq [.z, (.seq [(.n .u64), (.n .u64)])]) tAc := fun y hw hf h => by
  obtain ⟨cs, rfl, _⟩ := fits_agg hf
  simp only [V.cells, Sh.ok, oks] at h
  obtain ⟨_, _, rfl, ⟨d, rfl⟩, _, _, rfl, ⟨_, _, rfl, ⟨a1, rfl⟩, _, _, rfl, ⟨a0, rfl⟩, rfl⟩, rfl⟩ := h
  have hw' : wfs [.z d, .n .u64 a1, .n .u64 a0] := hw
  obtain ⟨-, -, h3, -⟩ := hw'
  replace h3 : a0 < 18446744073709551616 := h3
  refine ⟨⟨d, a1 * 18446744073709551616 + a0⟩, ?_⟩
  rw [tAc_enc]
  simp only [vAc]
  rw [(pair_dm h3).1, (pair_dm h3).2]
  rfl
end Go.Proofs.YteomkgcepiecjaaGreat.I
