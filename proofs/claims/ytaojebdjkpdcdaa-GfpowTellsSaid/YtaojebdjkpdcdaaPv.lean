/- Words and the number that they tell. Plain Lean. -/
import Derived.Test.YtaojebdjkpdcdaaGf1
namespace Go.Proofs.Ytaojebdjkpdcdaa.I

/-- The number that words tell. -/
def pv : List Nat → Nat
  | [] => 0
  | x :: xs => x + 18446744073709551616 * pv xs

/-- A number's words, without zeros at the end. -/
def wd (n : Nat) : List Nat := if h : n = 0 then [] else n % 18446744073709551616 :: wd (n / 18446744073709551616)
termination_by n
decreasing_by omega

theorem wd_zero : wd 0 = [] := by rw [wd]; simp
theorem wd_pos {n : Nat} (h : n ≠ 0) : wd n = n % 18446744073709551616 :: wd (n / 18446744073709551616) := by rw [wd]; simp [h]

theorem pv_wd (n : Nat) : pv (wd n) = n := by
  induction n using Nat.strongRecOn with
  | _ n ih =>
    by_cases h : n = 0
    · subst h; rw [wd_zero]; rfl
    · rw [wd_pos h, pv, ih _ (by omega)]; omega

theorem wd_lt (n : Nat) : ∀ x ∈ wd n, x < 18446744073709551616 := by
  induction n using Nat.strongRecOn with
  | _ n ih =>
    by_cases h : n = 0
    · subst h; rw [wd_zero]; simp
    · rw [wd_pos h]
      intro x hx
      rcases List.mem_cons.1 hx with rfl | hx
      · omega
      · exact ih _ (by omega) x hx

/-- Without the zeros at the end. -/
def trim (xs : List Nat) : List Nat := (xs.reverse.dropWhile (· == 0)).reverse

theorem trim_nil : trim [] = [] := rfl
theorem trim_cons (x : Nat) (xs : List Nat) : trim (x :: xs) = if trim xs = [] ∧ x = 0 then [] else x :: trim xs := by
  unfold trim
  rw [List.reverse_cons, List.dropWhile_append]
  by_cases h : xs.reverse.dropWhile (· == 0) = []
  · simp only [h, List.isEmpty_nil, if_true, List.reverse_nil, true_and]
    by_cases hx : x = 0
    · simp [hx]
    · simp [hx]
  · have : (xs.reverse.dropWhile (· == 0)).isEmpty = false := by simpa using h
    simp [h, this]

theorem pv_zero {xs : List Nat} : pv xs = 0 ↔ trim xs = [] := by
  induction xs with
  | nil => simp [pv, trim_nil]
  | cons x xs ih =>
    rw [trim_cons, pv]
    by_cases h : trim xs = [] ∧ x = 0
    · simp [h, ih.2 h.1]
    · simp only [h, if_false]
      simp only [reduceCtorEq, iff_false]
      intro e
      exact h ⟨ih.1 (by omega), by omega⟩

theorem trim_wd {xs : List Nat} (h : ∀ x ∈ xs, x < 18446744073709551616) : trim xs = wd (pv xs) := by
  induction xs with
  | nil => rw [pv, wd_zero, trim_nil]
  | cons x xs ih =>
    have hx := h x (by simp)
    have ih := ih fun y hy => h y (by simp [hy])
    rw [trim_cons, pv]
    by_cases h0 : trim xs = [] ∧ x = 0
    · simp only [h0, and_self, if_true]
      rw [pv_zero.2 h0.1]; rw [Nat.mul_zero, Nat.add_zero, wd_zero]
    · simp only [h0, if_false]
      have hne : x + 18446744073709551616 * pv xs ≠ 0 := by
        intro e
        exact h0 ⟨pv_zero.1 (by omega), by omega⟩
      rw [wd_pos hne, ih]
      congr 1
      · omega
      · congr 1; omega

theorem pv_take_drop (xs : List Nat) (k : Nat) (hk : k ≤ xs.length) : pv xs = pv (xs.take k) + 2 ^ (64 * k) * pv (xs.drop k) := by
  induction k generalizing xs with
  | zero => simp [pv]
  | succ k ih =>
    cases xs with
    | nil => simp at hk
    | cons x xs =>
      simp only [List.take_succ_cons, List.drop_succ_cons, pv]
      rw [ih xs (by simpa using hk), Nat.mul_succ, Nat.pow_add, Nat.mul_add]
      generalize pv (List.take k xs) = a
      generalize pv (List.drop k xs) = b
      rw [show (2 : Nat) ^ 64 = 18446744073709551616 by rfl]
      rw [Nat.mul_comm (2 ^ (64 * k)) 18446744073709551616, Nat.mul_assoc, Nat.add_assoc]

theorem pv_lt {xs : List Nat} (h : ∀ x ∈ xs, x < 18446744073709551616) : pv xs < 2 ^ (64 * xs.length) := by
  induction xs with
  | nil => simp [pv]
  | cons x xs ih =>
    have hx := h x (by simp)
    have ih := ih fun y hy => h y (by simp [hy])
    rw [pv, List.length_cons, Nat.mul_succ, Nat.pow_add, show (2 : Nat) ^ 64 = 18446744073709551616 by rfl]
    omega

/-- A word of a number. -/
def wdAt (n i : Nat) : Nat := n / 2 ^ (64 * i) % 18446744073709551616

theorem wdAt_zero (n : Nat) : wdAt n 0 = n % 18446744073709551616 := by simp [wdAt]
theorem wdAt_succ (n i : Nat) : wdAt n (i + 1) = wdAt (n / 18446744073709551616) i := by
  unfold wdAt
  rw [Nat.div_div_eq_div_mul, Nat.mul_succ, Nat.pow_add, Nat.mul_comm (2 ^ (64 * i)), show (2 : Nat) ^ 64 = 18446744073709551616 by rfl]
theorem wdAt_lt (n i : Nat) : wdAt n i < 18446744073709551616 := Nat.mod_lt _ (by omega)
theorem wdAt_zero_left (i : Nat) : wdAt 0 i = 0 := by simp [wdAt]
theorem wdAt_eq (n i : Nat) : wdAt n i = (n >>> (64 * i)) % 2 ^ 64 := by unfold wdAt; rw [Nat.shiftRight_eq_div_pow]
theorem wdAt_xor (a b i : Nat) : wdAt (a ^^^ b) i = wdAt a i ^^^ wdAt b i := by
  rw [wdAt_eq, wdAt_eq, wdAt_eq, Nat.shiftRight_xor_distrib, Nat.xor_mod_two_pow]
theorem testBit_wdAt (n i k : Nat) : (wdAt n i).testBit k = (decide (k < 64) && n.testBit (64 * i + k)) := by
  rw [wdAt_eq, Nat.testBit_mod_two_pow, Nat.testBit_shiftRight]

theorem getD_pv {xs : List Nat} (h : ∀ x ∈ xs, x < 18446744073709551616) (i : Nat) : xs.getD i 0 = wdAt (pv xs) i := by
  induction xs generalizing i with
  | nil => simp [pv, wdAt_zero_left]
  | cons x xs ih =>
    have hx := h x (by simp)
    cases i with
    | zero => rw [wdAt_zero, pv]; simp; omega
    | succ i =>
      rw [wdAt_succ, pv, List.getD_cons_succ, ih (fun y hy => h y (by simp [hy]))]
      congr 1; omega

theorem pv_of {l : List Nat} {n : Nat} (hn : n < 2 ^ (64 * l.length)) (h : ∀ i, i < l.length → l.getD i 0 = wdAt n i) : pv l = n := by
  induction l generalizing n with
  | nil => simp at hn; simp [pv, hn]
  | cons x l ih =>
    have h0 := h 0 (by simp)
    rw [wdAt_zero] at h0
    simp at h0
    rw [List.length_cons, Nat.mul_succ, Nat.pow_add, show (2 : Nat) ^ 64 = 18446744073709551616 by rfl] at hn
    have := ih (n := n / 18446744073709551616) (Nat.div_lt_of_lt_mul (by rwa [Nat.mul_comm] at hn)) fun i hi => by
      rw [← wdAt_succ]; exact h (i + 1) (by simpa using hi)
    rw [pv, this]; omega

theorem pv_map {n : Nat} {g : Nat → Nat} {m : Nat} (hn : m < 2 ^ (64 * n)) (h : ∀ i, i < n → g i = wdAt m i) : pv ((List.range n).map g) = m :=
  pv_of (by simpa using hn) fun i hi => by
    simp only [List.length_map, List.length_range] at hi
    simp only [List.getD_eq_getElem?_getD, List.getElem?_map, List.getElem?_range hi, Option.map_some, Option.getD_some]
    exact h i hi

theorem pv_append (xs ys : List Nat) : pv (xs ++ ys) = pv xs + 2 ^ (64 * xs.length) * pv ys := by
  induction xs with
  | nil => simp [pv]
  | cons x xs ih =>
    rw [List.cons_append, pv, pv, ih, List.length_cons, Nat.mul_succ, Nat.pow_add, show (2 : Nat) ^ 64 = 18446744073709551616 by rfl, Nat.mul_add]
    rw [Nat.mul_comm (2 ^ (64 * xs.length)) 18446744073709551616, Nat.mul_assoc, Nat.add_assoc]

theorem bl_pv {xs : List Nat} (h : ∀ x ∈ xs, x < 18446744073709551616) : bl (pv xs) ≤ 64 * xs.length := bl_lt.2 (pv_lt h)

theorem bl_div (n : Nat) : bl (n / 18446744073709551616) = bl n - 64 := by
  have key : ∀ k, bl (n / 18446744073709551616) ≤ k ↔ bl n - 64 ≤ k := by
    intro k
    rw [bl_lt, show bl n - 64 ≤ k ↔ bl n ≤ k + 64 by omega, bl_lt, Nat.pow_add, show (2 : Nat) ^ 64 = 18446744073709551616 by rfl, Nat.div_lt_iff_lt_mul (by omega)]
  have h1 := (key _).1 (Nat.le_refl _)
  have h2 := (key _).2 (Nat.le_refl _)
  omega

theorem wd_len (n : Nat) : (wd n).length = (bl n + 63) / 64 := by
  induction n using Nat.strongRecOn with
  | _ n ih =>
    by_cases h : n = 0
    · subst h; rw [wd_zero]; rfl
    · have := bl_pos.2 h
      rw [wd_pos h, List.length_cons, ih _ (by omega), bl_div]
      by_cases h2 : bl n ≤ 64
      · rw [show bl n - 64 = 0 by omega]; omega
      · omega

theorem wd_getD (n i : Nat) : (wd n).getD i 0 = wdAt n i := by
  rw [getD_pv (wd_lt n), pv_wd]

/-- The last word. -/
theorem bl_last {n : Nat} (h : n ≠ 0) : bl n = 64 * ((wd n).length - 1) + bl (wdAt n ((wd n).length - 1)) ∧ 0 < (wd n).length := by
  have hb := bl_pos.2 h
  have hl := wd_len n
  refine ⟨?_, by omega⟩
  have key : bl (n / 2 ^ (64 * ((wd n).length - 1))) = bl n - 64 * ((wd n).length - 1) := by
    have key : ∀ m k, bl (n / 2 ^ m) ≤ k ↔ bl n - m ≤ k := by
      intro m k
      rw [bl_lt, show bl n - m ≤ k ↔ bl n ≤ k + m by omega, bl_lt, Nat.pow_add, Nat.div_lt_iff_lt_mul (Nat.pow_pos (by omega))]
    have h1 := (key (64 * ((wd n).length - 1)) _).1 (Nat.le_refl _)
    have h2 := (key (64 * ((wd n).length - 1)) _).2 (Nat.le_refl _)
    omega
  have e : wdAt n ((wd n).length - 1) = n / 2 ^ (64 * ((wd n).length - 1)) := by
    unfold wdAt
    apply Nat.mod_eq_of_lt
    have := lt_bl (n / 2 ^ (64 * ((wd n).length - 1)))
    rw [key] at this
    refine Nat.lt_of_lt_of_le this ?_
    have : (2 : Nat) ^ (bl n - 64 * ((wd n).length - 1)) ≤ 2 ^ 64 := Nat.pow_le_pow_right (by omega) (by omega)
    simpa using this
  rw [e, key]; omega

theorem wd_eq_nil {n : Nat} : wd n = [] ↔ n = 0 := by
  constructor
  · intro h; rw [← pv_wd n, h]; rfl
  · rintro rfl; exact wd_zero

theorem wd_inj {a b : Nat} : wd a = wd b ↔ a = b := by
  constructor
  · intro h; rw [← pv_wd a, h, pv_wd]
  · rintro rfl; rfl
end Go.Proofs.Ytaojebdjkpdcdaa.I
