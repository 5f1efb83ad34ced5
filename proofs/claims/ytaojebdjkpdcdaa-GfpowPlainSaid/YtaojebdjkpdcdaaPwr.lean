/- Powers as rests. -/
import Derived.Test.YtaojebdjkpdcdaaGf2
namespace Go.Proofs.Ytaojebdjkpdcdaa.I
open Go
set_option linter.unusedSimpArgs false
set_option linter.unusedVariables false

/-! ### powers as rests -/
def pwr (a p : Nat) : Nat → Nat
  | 0 => rm 1 p
  | n + 1 => rm (cm (pwr a p n) a) p
theorem pwr_lt (a : Nat) {p : Nat} (hp : p ≠ 0) (n : Nat) : bl (pwr a p n) < bl p := by cases n <;> exact rm_lt _ hp
theorem pwr_rm (a : Nat) {p : Nat} (hp : p ≠ 0) (n : Nat) : rm (pwr a p n) p = pwr a p n := rm_small (pwr_lt a hp n)
theorem pwr_succ (a p n : Nat) : pwr a p (n + 1) = rm (cm (pwr a p n) a) p := rfl
theorem rm_cm_left (a b : Nat) {p : Nat} (hp : p ≠ 0) : rm (cm (rm a p) b) p = rm (cm a b) p :=
  (rm_eq_iff hp).2 (cg_cm (cg_rm a hp) (cg_refl _ _))
theorem rm_cm_right (a b : Nat) {p : Nat} (hp : p ≠ 0) : rm (cm a (rm b p)) p = rm (cm a b) p :=
  (rm_eq_iff hp).2 (cg_cm (cg_refl _ _) (cg_rm b hp))
theorem pwr_add (a : Nat) {p : Nat} (hp : p ≠ 0) (n m : Nat) : pwr a p (n + m) = rm (cm (pwr a p n) (pwr a p m)) p := by
  induction m with
  | zero =>
    show pwr a p n = rm (cm (pwr a p n) (rm 1 p)) p
    rw [rm_cm_right _ _ hp, cm_one_right, pwr_rm a hp]
  | succ m ih =>
    rw [Nat.add_succ, pwr_succ, ih, rm_cm_left _ _ hp, pwr_succ, rm_cm_right _ _ hp, cm_assoc]
theorem pwr_base (a : Nat) {p : Nat} (hp : p ≠ 0) (n : Nat) : pwr (rm a p) p n = pwr a p n := by
  induction n with
  | zero => rfl
  | succ n ih => rw [pwr_succ, pwr_succ, ih, rm_cm_right _ _ hp]
theorem pwr_mul (a : Nat) {p : Nat} (hp : p ≠ 0) (n m : Nat) : pwr (pwr a p n) p m = pwr a p (n * m) := by
  induction m with
  | zero => rfl
  | succ m ih => rw [pwr_succ, ih, Nat.mul_succ, pwr_add a hp]
theorem pwr_one (a : Nat) {p : Nat} (hp : p ≠ 0) : pwr a p 1 = rm a p := by
  show rm (cm (rm 1 p) a) p = rm a p
  rw [rm_cm_left _ _ hp, cm_one_left]
/-- A bit more of the number. -/
theorem pwr_bit (a : Nat) {p : Nat} (hp : p ≠ 0) (n i : Nat) : pwr a p (n >>> i) =
    if n.testBit i = true then rm (cm (rm (cm (pwr a p (n >>> (i + 1))) (pwr a p (n >>> (i + 1)))) p) (rm a p)) p else rm (cm (pwr a p (n >>> (i + 1))) (pwr a p (n >>> (i + 1)))) p := by
  have e : n >>> i = (n >>> (i + 1) + n >>> (i + 1)) + if n.testBit i = true then 1 else 0 := by
    have h1 : n >>> (i + 1) = n >>> i / 2 := by rw [Nat.shiftRight_succ]
    have h2 : n.testBit i = decide (n >>> i % 2 = 1) := by rw [Nat.testBit_eq_decide_div_mod_eq, Nat.shiftRight_eq_div_pow]
    rw [h1, h2]
    by_cases h3 : n >>> i % 2 = 1
    · rw [if_pos (decide_eq_true h3)]; omega
    · rw [if_neg (fun h => h3 (of_decide_eq_true h))]; omega
  rw [e, ← pwr_add a hp]
  split
  · rw [pwr_add a hp _ 1, pwr_one a hp]
  · rw [Nat.add_zero]

/-- Squared so many times. -/
def sqn (a p : Nat) : Nat → Nat
  | 0 => rm a p
  | n + 1 => rm (cm (sqn a p n) (sqn a p n)) p
theorem sqn_lt (a : Nat) {p : Nat} (hp : p ≠ 0) (n : Nat) : bl (sqn a p n) < bl p := by cases n <;> exact rm_lt _ hp
theorem sqn_pwr (a : Nat) {p : Nat} (hp : p ≠ 0) (n : Nat) : sqn a p n = pwr a p (2 ^ n) := by
  induction n with
  | zero => exact (pwr_one a hp).symm
  | succ n ih => rw [sqn, ih, ← pwr_add a hp, Nat.pow_succ]; congr 1; omega

end Go.Proofs.Ytaojebdjkpdcdaa.I
