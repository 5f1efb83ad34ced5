/- Steps are linear; polynomials act on states. -/
import Derived.Test.YtaojebdjkpdcdaaXjump1
namespace Go.Proofs.Ytaojebdjkpdcdaa.I
open Go
set_option linter.unusedSimpArgs false
set_option linter.unusedVariables false

theorem shl_mod_xor (x y k n : Nat) : ((x ^^^ y) <<< k) % 2 ^ n = (x <<< k) % 2 ^ n ^^^ (y <<< k) % 2 ^ n := by
  rw [Nat.shiftLeft_xor_distrib, Nat.xor_mod_two_pow]
theorem or_xor {a b : Nat} (h : a &&& b = 0) : a ||| b = a ^^^ b := by
  apply Nat.eq_of_testBit_eq
  intro i
  have := congrArg (fun n => n.testBit i) h
  simp only [Nat.testBit_and, Nat.zero_testBit] at this
  rw [Nat.testBit_or, Nat.testBit_xor]
  cases ha : a.testBit i <;> cases hb : b.testBit i <;> simp_all
theorem rot_xor' {x : Nat} (h : x < 18446744073709551616) : rot x = (x <<< 45) % 18446744073709551616 ^^^ x >>> 19 := by
  unfold rot
  refine or_xor ?_
  apply Nat.eq_of_testBit_eq
  intro i
  rw [show (18446744073709551616 : Nat) = 2 ^ 64 from rfl, Nat.testBit_and, Nat.testBit_mod_two_pow, Nat.testBit_shiftLeft, Nat.testBit_shiftRight, Nat.zero_testBit]
  by_cases h1 : 45 ≤ i
  · have : x.testBit (19 + i) = false := Nat.testBit_lt_two_pow (Nat.lt_of_lt_of_le h (Nat.pow_le_pow_right (n := 2) (i := 64) (by omega) (by omega)))
    simp [this]
  · simp [h1]
theorem rot_xor {x y : Nat} (hx : x < 18446744073709551616) (hy : y < 18446744073709551616) : rot (x ^^^ y) = rot x ^^^ rot y := by
  rw [rot_xor' hx, rot_xor' hy, rot_xor' (xor_lt hx hy), show (18446744073709551616 : Nat) = 2 ^ 64 from rfl, shl_mod_xor, Nat.shiftRight_xor_distrib]
  generalize (x <<< 45) % 2 ^ 64 = a; generalize (y <<< 45) % 2 ^ 64 = b; generalize x >>> 19 = c; generalize y >>> 19 = d
  rw [Nat.xor_assoc, Nat.xor_assoc, xor_left_comm b c d]
theorem xadd_wf {s t : X4} (h : s.wf) (g : t.wf) : (xadd s t).wf := ⟨xor_lt h.1 g.1, xor_lt h.2.1 g.2.1, xor_lt h.2.2.1 g.2.2.1, xor_lt h.2.2.2 g.2.2.2⟩
theorem x4_ext {s t : X4} (h1 : s.a = t.a) (h2 : s.b = t.b) (h3 : s.c = t.c) (h4 : s.d = t.d) : s = t := by cases s; cases t; simp_all
theorem xor4 (a b c d : Nat) : (a ^^^ b) ^^^ (c ^^^ d) = (a ^^^ c) ^^^ (b ^^^ d) := by
  rw [Nat.xor_assoc, Nat.xor_assoc, xor_left_comm b c d]
theorem xstep_add {s t : X4} (h : s.wf) (g : t.wf) : xstep (xadd s t) = xadd (xstep s) (xstep t) := by
  refine x4_ext ?_ ?_ ?_ ?_
  · show (s.a ^^^ t.a) ^^^ ((s.d ^^^ t.d) ^^^ (s.b ^^^ t.b)) = (s.a ^^^ (s.d ^^^ s.b)) ^^^ (t.a ^^^ (t.d ^^^ t.b))
    rw [xor4 s.d t.d, xor4 s.a t.a]
  · show (s.b ^^^ t.b) ^^^ ((s.c ^^^ t.c) ^^^ (s.a ^^^ t.a)) = (s.b ^^^ (s.c ^^^ s.a)) ^^^ (t.b ^^^ (t.c ^^^ t.a))
    rw [xor4 s.c t.c, xor4 s.b t.b]
  · show ((s.c ^^^ t.c) ^^^ (s.a ^^^ t.a)) ^^^ (((s.b ^^^ t.b) <<< 17) % 2 ^ 64) = ((s.c ^^^ s.a) ^^^ ((s.b <<< 17) % 2 ^ 64)) ^^^ ((t.c ^^^ t.a) ^^^ ((t.b <<< 17) % 2 ^ 64))
    rw [shl_mod_xor, xor4 s.c t.c, xor4 (s.c ^^^ s.a)]
  · show rot ((s.d ^^^ t.d) ^^^ (s.b ^^^ t.b)) = rot (s.d ^^^ s.b) ^^^ rot (t.d ^^^ t.b)
    rw [xor4, rot_xor h.d_xor_b g.d_xor_b]

theorem xadd_comm (s t : X4) : xadd s t = xadd t s := x4_ext (Nat.xor_comm _ _) (Nat.xor_comm _ _) (Nat.xor_comm _ _) (Nat.xor_comm _ _)
theorem xadd_assoc (s t w : X4) : xadd (xadd s t) w = xadd s (xadd t w) := x4_ext (Nat.xor_assoc _ _ _) (Nat.xor_assoc _ _ _) (Nat.xor_assoc _ _ _) (Nat.xor_assoc _ _ _)
theorem xadd_zero (s : X4) : xadd s x0 = s := x4_ext (Nat.xor_zero _) (Nat.xor_zero _) (Nat.xor_zero _) (Nat.xor_zero _)
theorem zero_xadd (s : X4) : xadd x0 s = s := by rw [xadd_comm, xadd_zero]
theorem xadd_self (s : X4) : xadd s s = x0 := x4_ext (Nat.xor_self _) (Nat.xor_self _) (Nat.xor_self _) (Nat.xor_self _)
theorem xadd4 (a b c d : X4) : xadd (xadd a b) (xadd c d) = xadd (xadd a c) (xadd b d) := x4_ext (xor4 _ _ _ _) (xor4 _ _ _ _) (xor4 _ _ _ _) (xor4 _ _ _ _)
theorem x0_wf : x0.wf := ⟨by decide, by decide, by decide, by decide⟩
theorem xst_add {s t : X4} (h : s.wf) (g : t.wf) : ∀ n, xst (xadd s t) n = xadd (xst s n) (xst t n)
  | 0 => rfl
  | n + 1 => by rw [xst, xst_add h g n, xstep_add (xst_wf h n) (xst_wf g n)]; rfl
theorem xst_step (s : X4) : ∀ n, xst (xstep s) n = xstep (xst s n)
  | 0 => rfl
  | n + 1 => by rw [xst, xst_step s n]; rfl
theorem xst_xst (s : X4) (n : Nat) : ∀ m, xst (xst s n) m = xst s (n + m)
  | 0 => rfl
  | m + 1 => by rw [xst, xst_xst s n m]; rfl
theorem xstep_zero : xstep x0 = x0 := by decide
theorem xat_wf (p : Nat) {s : X4} (h : s.wf) : ∀ n, (xat p s n).wf
  | 0 => x0_wf
  | n + 1 => by
    rw [xat]; split
    · exact xadd_wf (xat_wf p h n) (xst_wf h n)
    · exact xat_wf p h n
theorem xat_step (p : Nat) {s : X4} (h : s.wf) : ∀ n, xat p (xstep s) n = xstep (xat p s n)
  | 0 => xstep_zero.symm
  | n + 1 => by
    rw [xat, xat, xat_step p h n, xst_step]
    split
    · rw [xstep_add (xat_wf p h n) (xst_wf h n)]
    · rfl
theorem xat_add (p : Nat) {s t : X4} (h : s.wf) (g : t.wf) : ∀ n, xat p (xadd s t) n = xadd (xat p s n) (xat p t n)
  | 0 => (xadd_zero x0).symm
  | n + 1 => by
    rw [xat, xat, xat, xat_add p h g n, xst_add h g]
    split
    · rw [xadd4]
    · rfl
theorem xat_xor (p q : Nat) (s : X4) : ∀ n, xat (p ^^^ q) s n = xadd (xat p s n) (xat q s n)
  | 0 => (xadd_zero x0).symm
  | n + 1 => by
    rw [xat, xat, xat, xat_xor p q s n, Nat.testBit_xor]
    cases hp : p.testBit n <;> cases hq : q.testBit n <;> simp only [Bool.xor_false, Bool.xor_true, Bool.not_false, Bool.not_true, if_true, Bool.false_eq_true, if_false, Bool.bne_false, Bool.bne_true, bne_self_eq_false]
    · rw [xadd_assoc]
    · rw [xadd_comm (xat p s n), xadd_assoc, xadd_comm (xat q s n), xadd_assoc, xadd_comm (xst s n)]
    · rw [xadd4, xadd_self, xadd_zero]
theorem xat_more {p : Nat} (s : X4) {n : Nat} (h : bl p ≤ n) : ∀ k, xat p s (n + k) = xat p s n
  | 0 => rfl
  | k + 1 => by
    have : p.testBit (n + k) = false := Nat.testBit_lt_two_pow (bl_lt.1 (by omega))
    rw [← Nat.add_assoc, xat, if_neg (by rw [this]; decide), xat_more s h k]
end Go.Proofs.Ytaojebdjkpdcdaa.I
