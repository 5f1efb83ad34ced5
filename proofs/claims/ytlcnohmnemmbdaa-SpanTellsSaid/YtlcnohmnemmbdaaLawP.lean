/- Kinds of plain data that come from outside: spans. -/
import Derived.Test.YtlcnohmnemmbdaaLawT
import Derived.Test.YtlcnohmnemmbdaaRow4
namespace Go.Proofs.Ytlcnohmnemmbdaa.I
open Go
set_option linter.unusedSimpArgs false
set_option linter.unusedVariables false

theorem cov_2 : Cov 4 true (.seq [(.seq [(.n .u64), (.n .u64)]), (.seq [(.n .u64), (.n .u64)])]) t2 := fun y hw hf h => by
  obtain ⟨cs, rfl, _⟩ := fits_agg hf
  simp only [V.cells, Sh.ok, oks] at h
  obtain ⟨_, _, rfl, ⟨_, _, rfl, ⟨a1, rfl⟩, _, _, rfl, ⟨a0, rfl⟩, rfl⟩, _, _, rfl, ⟨_, _, rfl, ⟨b1, rfl⟩, _, _, rfl, ⟨b0, rfl⟩, rfl⟩, rfl⟩ := h
  have hw' : wfs [.n .u64 a1, .n .u64 a0, .n .u64 b1, .n .u64 b0] := hw
  obtain ⟨-, h2, -, h4, -⟩ := hw'
  replace h2 : a0 < 18446744073709551616 := h2
  replace h4 : b0 < 18446744073709551616 := h4
  refine ⟨⟨a1 * 18446744073709551616 + a0, b1 * 18446744073709551616 + b0⟩, ?_⟩
  rw [t2_enc]
  simp only
  rw [show (a1 * 18446744073709551616 + a0) / 18446744073709551616 = a1 by omega, show (a1 * 18446744073709551616 + a0) % 18446744073709551616 = a0 by omega, show (b1 * 18446744073709551616 + b0) / 18446744073709551616 = b1 by omega, show (b1 * 18446744073709551616 + b0) % 18446744073709551616 = b0 by omega]
  rfl
end Go.Proofs.Ytlcnohmnemmbdaa.I
