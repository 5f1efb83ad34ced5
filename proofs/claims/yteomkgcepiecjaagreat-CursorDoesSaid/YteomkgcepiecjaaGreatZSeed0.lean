/- Words of a seed: distinct seeds have distinct ones. -/
import Derived.Test.YteomkgcepiecjaaGreatZGen4
namespace Go.Proofs.YteomkgcepiecjaaGreat.I
open Go
set_option linter.unusedVariables false
theorem xsh_inj {s x y : Nat} (hs : 1 ≤ s) (h : x ^^^ x >>> s = y ^^^ y >>> s) : x = y := by
  have e : (x ^^^ y) >>> s = x ^^^ y := by
    rw [Nat.shiftRight_xor_distrib]
    have : x ^^^ x >>> s ^^^ (x >>> s ^^^ y) = y ^^^ y >>> s ^^^ (x >>> s ^^^ y) := by rw [h]
    have e1 : x ^^^ x >>> s ^^^ (x >>> s ^^^ y) = x ^^^ y := by
      rw [Nat.xor_assoc, ← Nat.xor_assoc (x >>> s), Nat.xor_self, Nat.zero_xor]
    have e2 : y ^^^ y >>> s ^^^ (x >>> s ^^^ y) = x >>> s ^^^ y >>> s := by
      rw [Nat.xor_comm y, Nat.xor_assoc, Nat.xor_comm (x >>> s) y, ← Nat.xor_assoc y, Nat.xor_self, Nat.zero_xor, Nat.xor_comm]
    rw [e1, e2] at this
    exact this.symm
  have z : x ^^^ y = 0 := by
    generalize x ^^^ y = d at e
    rw [Nat.shiftRight_eq_div_pow] at e
    have h2 : 2 ≤ 2 ^ s := by
      calc 2 = 2 ^ 1 := rfl
        _ ≤ 2 ^ s := Nat.pow_le_pow_right (by omega) hs
    rcases Nat.eq_zero_or_pos d with h | h
    · exact h
    · have := Nat.div_lt_self h (show 1 < 2 ^ s by omega)
      omega
  have : x ^^^ (x ^^^ y) = x := by rw [z, Nat.xor_zero]
  rw [← Nat.xor_assoc, Nat.xor_self, Nat.zero_xor] at this
  exact this.symm
theorem mul_inj {N t u x y : Nat} (hu : t * u % N = 1) (hx : x < N) (hy : y < N) (h : x * t % N = y * t % N) : x = y := by
  have f : ∀ z, z < N → z * t % N * u % N = z := fun z hz => by
    rw [Nat.mod_mul_mod, Nat.mul_assoc, Nat.mul_mod, hu, Nat.mul_one, Nat.mod_mod, Nat.mod_eq_of_lt hz]
  rw [← f x hx, h, f y hy]
theorem xsh_lt {s x : Nat} (h : x < 18446744073709551616) : x ^^^ x >>> s < 18446744073709551616 := by
  refine xor_lt h ?_
  rw [Nat.shiftRight_eq_div_pow]
  exact Nat.lt_of_le_of_lt (Nat.div_le_self _ _) h
theorem mixR_inj {s t u x y : Nat} (hs : 1 ≤ s) (hu : t * u % 18446744073709551616 = 1) (hx : x < 18446744073709551616) (hy : y < 18446744073709551616) (h : mixR s t x = mixR s t y) : x = y :=
  xsh_inj hs (mul_inj hu (xsh_lt hx) (xsh_lt hy) h)
theorem mixR_lt (s t x : Nat) : mixR s t x < 18446744073709551616 := Nat.mod_lt _ (Nat.two_pow_pos 64)
theorem mul1 : 13787848793156543929 * 10871156337175269513 % 18446744073709551616 = 1 := by decide
theorem mul2 : 10723151780598845931 * 3573116690164977347 % 18446744073709551616 = 1 := by decide
theorem mul3 : 1 * 1 % 18446744073709551616 = 1 := by decide
theorem mix1_inj {x y : Nat} (hx : x < 18446744073709551616) (hy : y < 18446744073709551616) (h : mix1 x = mix1 y) : x = y := mixR_inj (by omega) mul1 hx hy h
theorem mix1_lt (x : Nat) : mix1 x < 18446744073709551616 := mixR_lt _ _ _
theorem mix2_lt (x : Nat) : mix2 x < 18446744073709551616 := mixR_lt _ _ _
theorem mix2_inj {x y : Nat} (hx : x < 18446744073709551616) (hy : y < 18446744073709551616) (h : mix2 x = mix2 y) : x = y := mix1_inj hx hy (mixR_inj (by omega) mul2 (mix1_lt _) (mix1_lt _) h)
theorem mix3_inj {x y : Nat} (hx : x < 18446744073709551616) (hy : y < 18446744073709551616) (h : mix3 x = mix3 y) : x = y := mix2_inj hx hy (mixR_inj (by omega) mul3 (mix2_lt _) (mix2_lt _) h)
theorem mix3_lt (x : Nat) : mix3 x < 18446744073709551616 := mixR_lt _ _ _
theorem mstep_inj {x y : Nat} (hx : x < 18446744073709551616) (hy : y < 18446744073709551616) (h : mstep x = mstep y) : x = y := by
  have h : (x + 11400714819323198485) % 18446744073709551616 = (y + 11400714819323198485) % 18446744073709551616 := h
  omega
theorem mword_inj {x y : Nat} (hx : x < 18446744073709551616) (hy : y < 18446744073709551616) (h : mword x = mword y) : x = y := mstep_inj hx hy (mix3_inj (mstep_lt _) (mstep_lt _) h)
theorem mword_lt (x : Nat) : mword x < 18446744073709551616 := mix3_lt _
theorem mstep_ne (x : Nat) : mstep x ≠ x := fun h => by
  have h : (x + 11400714819323198485) % 18446744073709551616 = x := h
  omega
end Go.Proofs.YteomkgcepiecjaaGreat.I
