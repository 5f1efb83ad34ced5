/- Kinds of plain data that come from outside: a generator's state. -/
import Derived.Test.YtggpbjhmpipplaaGreatLawT
import Derived.Test.YtggpbjhmpipplaaGreatGen1
namespace Go.Proofs.YtggpbjhmpipplaaGreat.I
open Go
set_option linter.unusedSimpArgs false
set_option linter.unusedVariables false

theorem pair_dm {x z : Nat} (hz : z < 18446744073709551616) : (x * 18446744073709551616 + z) / 18446744073709551616 = x ∧ (x * 18446744073709551616 + z) % 18446744073709551616 = z := by
  constructor <;> omega
theorem cov_g : Cov 15 true (.seq [.z, (.n .u64), (.seq [(.n .u64), (.n .u64), (.n .u64), (.n .u64)]), (.seq [(.seq [(.n .u64), (.n .u64)]), (.seq [(.n .u64), (.n .u64)])]), (.seq [(.seq [(.n .u64), (.n .u64)]), (.seq [(.n .u32), (.n .u32)]), .b])]) tG := fun y hw hf h => by
  obtain ⟨cs, rfl, _⟩ := fits_agg hf
  simp only [V.cells, Sh.ok, oks] at h
  obtain ⟨_, _, rfl, ⟨k, rfl⟩, _, _, rfl, ⟨m, rfl⟩,
    _, _, rfl, ⟨_, _, rfl, ⟨xa, rfl⟩, _, _, rfl, ⟨xb, rfl⟩, _, _, rfl, ⟨xc, rfl⟩, _, _, rfl, ⟨xd, rfl⟩, rfl⟩,
    _, _, rfl, ⟨_, _, rfl, ⟨_, _, rfl, ⟨p1, rfl⟩, _, _, rfl, ⟨p0, rfl⟩, rfl⟩, _, _, rfl, ⟨_, _, rfl, ⟨q1, rfl⟩, _, _, rfl, ⟨q0, rfl⟩, rfl⟩, rfl⟩,
    _, _, rfl, ⟨_, _, rfl, ⟨_, _, rfl, ⟨c1, rfl⟩, _, _, rfl, ⟨c0, rfl⟩, rfl⟩, _, _, rfl, ⟨_, _, rfl, ⟨ka, rfl⟩, _, _, rfl, ⟨kb, rfl⟩, rfl⟩, _, _, rfl, ⟨hh, rfl⟩, rfl⟩, rfl⟩ := h
  have hw' : wfs [.z k, .n .u64 m, .n .u64 xa, .n .u64 xb, .n .u64 xc, .n .u64 xd, .n .u64 p1, .n .u64 p0, .n .u64 q1, .n .u64 q0, .n .u64 c1, .n .u64 c0, .n .u32 ka, .n .u32 kb, .b hh] := hw
  obtain ⟨-, -, -, -, -, -, -, h8, -, h10, -, h12, -⟩ := hw'
  replace h8 : p0 < 18446744073709551616 := h8
  replace h10 : q0 < 18446744073709551616 := h10
  replace h12 : c0 < 18446744073709551616 := h12
  refine ⟨⟨k, m, ⟨xa, xb, xc, xd⟩, ⟨p1 * 18446744073709551616 + p0, q1 * 18446744073709551616 + q0⟩, ⟨c1 * 18446744073709551616 + c0, ⟨ka, kb⟩, hh⟩⟩, ?_⟩
  rw [tG_enc]
  simp only
  rw [(pair_dm h8).1, (pair_dm h8).2, (pair_dm h10).1, (pair_dm h10).2, (pair_dm h12).1, (pair_dm h12).2]
  rfl
end Go.Proofs.YtggpbjhmpipplaaGreat.I
