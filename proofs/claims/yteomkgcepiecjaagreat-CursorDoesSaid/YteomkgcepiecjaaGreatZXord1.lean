/- Powers of x that are 1 by the rule. -/
import Derived.Test.YteomkgcepiecjaaGreatZG6
namespace Go.Proofs.YteomkgcepiecjaaGreat.I
open Go
set_option linter.unusedSimpArgs false
set_option linter.unusedVariables false
def Z (k : Nat) : Prop := cg RP (cpw 2 k) 1
theorem two_free (n : Nat) : ¬ dv RP (cpw 2 n) := by
  induction n with
  | zero => exact RP_irr.not_one
  | succ n ih =>
    intro d
    rcases RP_irr.prime d with d | d
    · exact ih d
    · have := dv_bl d (by decide); rw [bl_RP] at this; exact absurd this (by decide)
theorem Z.add {a b : Nat} (h : Z a) (g : Z b) : Z (a + b) := by
  unfold Z at *; rw [cpw_add]; exact cg_cm h g
theorem Z.mul {a : Nat} (h : Z a) : ∀ m, Z (a * m)
  | 0 => by rw [Nat.mul_zero]; exact cg_refl _ _
  | m + 1 => by rw [Nat.mul_succ]; exact (h.mul m).add h
theorem Z.sub {a b : Nat} (h : Z (a + b)) (g : Z a) : Z b := by
  unfold Z at *
  rw [cpw_add] at h
  have : cg RP (cm (cpw 2 a) (cpw 2 b)) (cm 1 (cpw 2 b)) := cg_cm g (cg_refl _ _)
  rw [cm_one_left] at this
  exact cg_trans (cg_symm this) h
theorem Z.gcd {a b : Nat} (h : Z a) (g : Z b) : Z (Nat.gcd a b) := by
  induction a, b using Nat.gcd.induction with
  | H0 b => rw [Nat.gcd_zero_left]; exact g
  | H1 a b ha ih =>
    rw [Nat.gcd_rec]
    refine ih ?_ h
    have e : a * (b / a) + b % a = b := Nat.div_add_mod b a
    exact Z.sub (a := a * (b / a)) (by rw [e]; exact g) (h.mul _)
def pwx (d p e : Nat) : Nat → Nat → Nat
  | 0, x => x
  | k + 1, x => match mm d p d 0 x x with
    | 0 => pwx d p e k 0
    | m + 1 => match e >>> k % 2 with
      | 0 => pwx d p e k (m + 1)
      | _ + 1 => match mmR d p (2 * (m + 1)) with
        | 0 => pwx d p e k 0
        | j + 1 => pwx d p e k (j + 1)
theorem pwx_succ (d p e k x : Nat) (h0 : mmR d p 0 = 0) : pwx d p e (k + 1) x = pwx d p e k (if e >>> k % 2 = 1 then mmR d p (2 * mm d p d 0 x x) else mm d p d 0 x x) := by
  rw [pwx]
  rcases Nat.mod_two_eq_zero_or_one (e >>> k) with h | h
  · rw [if_neg (by omega), h]; split <;> simp_all
  · rw [if_pos h, h]; split
    · simp_all
    · rename_i m hm; rw [hm]; simp only []; split <;> simp_all
theorem pwx_spec {d p : Nat} (hp : bl p = d + 1) (e : Nat) : ∀ (k x : Nat), bl x ≤ d → cg p (pwx d p e k x) (cm (cpw x (2 ^ k)) (cpw 2 (e % 2 ^ k)))
  | 0, x, h => by
    rw [pwx, Nat.pow_zero, Nat.mod_one, cpw_one]
    show cg p x (cm x 1)
    rw [cm_one_right]; exact cg_refl _ _
  | k + 1, x, h => by
    have hp0 : p ≠ 0 := by rintro rfl; rw [bl_zero] at hp; omega
    have e1 := mm_eq hp h h
    have l1 := rm_lt (cm x x) hp0
    have b1 : bl (2 * mm d p d 0 x x) ≤ d + 1 := by
      rw [e1]
      rcases Decidable.em (rm (cm x x) p = 0) with z | z
      · rw [z, Nat.mul_zero, bl_zero]; omega
      · rw [bl_two_mul z]; omega
    obtain ⟨r1, r2⟩ := mmR_spec hp b1
    have h0 : mmR d p 0 = 0 := by unfold mmR; rw [Nat.zero_shiftRight, Nat.zero_mul, Nat.zero_xor]
    have sq : cg p (mm d p d 0 x x) (cm x x) := by rw [e1]; exact cg_rm _ hp0
    have pw : cpw x (2 ^ (k + 1)) = cpw (cm x x) (2 ^ k) := by
      rw [frob_cm, cpw_two_pow_succ]
    rw [pwx_succ _ _ _ _ _ h0, mod_succ_add, cpw_add, pw]
    rcases Nat.mod_two_eq_zero_or_one (e >>> k) with g | g <;> rw [g]
    · rw [if_neg (by omega), Nat.mul_zero]
      refine cg_trans (pwx_spec hp e k _ (by rw [e1]; omega)) ?_
      show cg p _ (cm _ (cm 1 _))
      rw [cm_one_left]
      exact cg_cm (cg_cpw sq _) (cg_refl _ _)
    · rw [if_pos rfl, Nat.mul_one]
      refine cg_trans (pwx_spec hp e k _ r1) ?_
      rw [← cm_assoc]
      refine cg_cm ?_ (cg_refl _ _)
      rw [← frob_cm]
      refine cg_cpw (cg_trans r2 ?_) _
      rw [show 2 * mm d p d 0 x x = cm 2 (mm d p d 0 x x) by rw [show (2 : Nat) = 2 * 1 from rfl, cm_two_left, cm_one_left]]
      rw [cm_comm (cm x x) 2]
      exact cg_cm (cg_refl _ _) sq
theorem not_Z {e : Nat} (he : e < 2 ^ 256) (h : pwx 256 RP e 256 1 ≠ 1) (hl : bl (pwx 256 RP e 256 1) ≤ 256) : ¬ Z e := fun z => by
  have := pwx_spec bl_RP e 256 1 (by decide)
  rw [cpw_unit, cm_one_left, Nat.mod_eq_of_lt he] at this
  exact h (cg_small (cg_trans this z) (by rw [bl_RP]; omega) (by rw [bl_RP]; decide))
end Go.Proofs.YteomkgcepiecjaaGreat.I
