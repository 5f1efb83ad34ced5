/- Polynomials over the field of two, as whole numbers: sums, products, degrees. Plain Lean. -/
namespace Go.Proofs.Ytaojebdjkpdcdaa.I

/-- How many bits a number has. -/
def bl (x : Nat) : Nat := if x = 0 then 0 else x.log2 + 1

theorem bl_zero : bl 0 = 0 := rfl
theorem bl_lt {x k : Nat} : bl x ≤ k ↔ x < 2 ^ k := by
  unfold bl
  by_cases h : x = 0
  · simp [h, Nat.pow_pos]
  · simp only [h, if_false]
    rw [Nat.succ_le_iff, Nat.log2_lt h]
theorem lt_bl (x : Nat) : x < 2 ^ bl x := bl_lt.1 (Nat.le_refl _)
theorem bl_ge {x k : Nat} : k < bl x ↔ 2 ^ k ≤ x := by
  have := bl_lt (x := x) (k := k); omega
theorem bl_pos {x : Nat} : 0 < bl x ↔ x ≠ 0 := by
  have := bl_ge (x := x) (k := 0); simp at this; omega
theorem bl_eq_zero {x : Nat} : bl x = 0 ↔ x = 0 := by have := bl_pos (x := x); omega
theorem bl_mono {x y : Nat} (h : x ≤ y) : bl x ≤ bl y := bl_lt.2 (Nat.lt_of_le_of_lt h (lt_bl y))
theorem bl_unique {x k : Nat} (h : 2 ^ k ≤ x) (h' : x < 2 ^ (k + 1)) : bl x = k + 1 := by
  have := bl_ge.2 h; have := bl_lt.2 h'; omega
theorem bl_two_mul {x : Nat} (h : x ≠ 0) : bl (2 * x) = bl x + 1 := by
  have h1 := lt_bl x
  have h0 := bl_pos.2 h
  have h2 : 2 ^ (bl x - 1) ≤ x := bl_ge.1 (by omega)
  refine bl_unique ?_ ?_
  · have : 2 ^ bl x = 2 * 2 ^ (bl x - 1) := by rw [← Nat.pow_succ']; congr 1; omega
    omega
  · rw [Nat.pow_succ]; omega
theorem bl_shl {x : Nat} (h : x ≠ 0) (n : Nat) : bl (x <<< n) = bl x + n := by
  induction n with
  | zero => simp
  | succ n ih =>
    rw [Nat.shiftLeft_succ, bl_two_mul, ih]; · omega
    · rw [Nat.shiftLeft_eq]; exact Nat.mul_ne_zero h (Nat.ne_of_gt (Nat.pow_pos (by omega)))
theorem bl_top {x : Nat} (h : x ≠ 0) : x.testBit (bl x - 1) = true := by
  have h0 := bl_pos.2 h
  have h2 : 2 ^ (bl x - 1) ≤ x := bl_ge.1 (by omega)
  have h1 := lt_bl x
  rw [Nat.testBit_eq_decide_div_mod_eq]
  have e : 2 ^ bl x = 2 * 2 ^ (bl x - 1) := by rw [← Nat.pow_succ']; congr 1; omega
  have : x / 2 ^ (bl x - 1) = 1 := by
    apply Nat.div_eq_of_lt_le <;> omega
  simp [this]
theorem bl_xor_le (x y : Nat) : bl (x ^^^ y) ≤ max (bl x) (bl y) := by
  rw [bl_lt]
  refine Nat.xor_lt_two_pow ?_ ?_
  · exact Nat.lt_of_lt_of_le (lt_bl x) (Nat.pow_le_pow_right (by omega) (by omega))
  · exact Nat.lt_of_lt_of_le (lt_bl y) (Nat.pow_le_pow_right (by omega) (by omega))
theorem testBit_bl {x k : Nat} (h : bl x ≤ k) : x.testBit k = false := Nat.testBit_lt_two_pow (bl_lt.1 h)
theorem bl_of_testBit {x k : Nat} (h : x.testBit k = true) : k < bl x := by
  rcases Nat.lt_or_ge k (bl x) with h' | h'
  · exact h'
  · rw [testBit_bl h'] at h; cases h
theorem bl_xor_ne {x y : Nat} (h : bl x < bl y) : bl (x ^^^ y) = bl y := by
  have h1 := bl_xor_le x y
  have h0 : y ≠ 0 := bl_pos.1 (by omega)
  have : (x ^^^ y).testBit (bl y - 1) = true := by rw [Nat.testBit_xor, bl_top h0, testBit_bl (x := x) (by omega)]; rfl
  have := bl_of_testBit this
  omega
theorem bl_xor_ne' {x y : Nat} (h : bl y < bl x) : bl (x ^^^ y) = bl x := by rw [Nat.xor_comm]; exact bl_xor_ne h
theorem bl_xor_lt {x y : Nat} (h : bl x = bl y) (h0 : x ≠ 0) : bl (x ^^^ y) < bl x := by
  have h1 := bl_xor_le x y
  have hp := bl_pos.2 h0
  have h0' : y ≠ 0 := bl_pos.1 (by omega)
  rcases Nat.lt_or_ge (bl (x ^^^ y)) (bl x) with h' | h'
  · exact h'
  · have e : bl (x ^^^ y) = bl x := by omega
    have : (x ^^^ y).testBit (bl x - 1) = true := by rw [← e]; exact bl_top (by intro e'; rw [e', bl_zero] at e; omega)
    rw [Nat.testBit_xor, bl_top h0, h, bl_top h0'] at this
    cases this

theorem xor_cancel (a b : Nat) : a ^^^ (a ^^^ b) = b := by rw [← Nat.xor_assoc, Nat.xor_self, Nat.zero_xor]
theorem xor_cancel' (a b : Nat) : a ^^^ b ^^^ b = a := by rw [Nat.xor_assoc, Nat.xor_self, Nat.xor_zero]
theorem xor_eq_zero {a b : Nat} : a ^^^ b = 0 ↔ a = b := by
  constructor
  · intro h; have := xor_cancel' a b; rw [h, Nat.zero_xor] at this; exact this.symm
  · rintro rfl; exact Nat.xor_self _
theorem xor_eq {a b c : Nat} : a ^^^ b = c ↔ a = c ^^^ b := by
  constructor
  · rintro rfl; exact (xor_cancel' a b).symm
  · rintro rfl; exact xor_cancel' c b
theorem xor_left_comm (a b c : Nat) : a ^^^ (b ^^^ c) = b ^^^ (a ^^^ c) := by rw [← Nat.xor_assoc, Nat.xor_comm a b, Nat.xor_assoc]
theorem two_xor (a b : Nat) : 2 * (a ^^^ b) = 2 * a ^^^ 2 * b := by
  have := Nat.shiftLeft_xor_distrib (a := a) (b := b) (i := 1)
  simpa [Nat.shiftLeft_eq, Nat.mul_comm] using this
theorem shl_xor (a b n : Nat) : (a ^^^ b) <<< n = a <<< n ^^^ b <<< n := Nat.shiftLeft_xor_distrib
theorem odd_xor (a : Nat) : 2 * a + 1 = 1 ^^^ 2 * a := by
  apply Nat.eq_of_testBit_eq
  intro i
  cases i with
  | zero => simp
  | succ i =>
    rw [Nat.testBit_xor, Nat.testBit_succ, Nat.testBit_succ 1, Nat.testBit_succ (2 * a)]
    rw [show (2 * a + 1) / 2 = a by omega, show 2 * a / 2 = a by omega, show 1 / 2 = 0 by rfl]
    simp

/-! ### products -/

/-- The product, by so many parts of the first one. -/
def cmF : Nat → Nat → Nat → Nat
  | 0, _, _ => 0
  | k + 1, a, b => (if a % 2 = 1 then b else 0) ^^^ 2 * cmF k (a / 2) b

/-- The product. -/
def cm (a b : Nat) : Nat := cmF (bl a) a b

theorem cmF_more : ∀ k a b, bl a ≤ k → cmF k a b = cmF (bl a) a b
  | 0, a, b, h => by rw [show bl a = 0 by omega]
  | k + 1, a, b, h => by
    by_cases ha : a = 0
    · subst ha
      have : ∀ k, cmF k 0 b = 0 := by
        intro k; induction k with
        | zero => rfl
        | succ k ih => simp [cmF, ih]
      rw [this, this]
    · have h1 : bl (a / 2) + 1 = bl a := by
        by_cases h2 : a / 2 = 0
        · have : a = 1 := by omega
          subst this; rfl
        · have h3 := bl_two_mul h2
          have h4 : bl (2 * (a / 2)) ≤ bl a := bl_mono (by omega)
          have h5 := lt_bl (2 * (a / 2))
          have h6 : bl a ≤ bl (2 * (a / 2)) := by
            rw [bl_lt]
            have h7 : 2 ^ bl (2 * (a / 2)) = 2 * 2 ^ bl (a / 2) := by rw [h3, Nat.pow_succ, Nat.mul_comm]
            have h8 := lt_bl (a / 2)
            omega
          omega
      rw [← h1]
      simp only [cmF]
      rw [cmF_more k (a / 2) b (by omega)]

theorem cm_zero_left (b : Nat) : cm 0 b = 0 := rfl
theorem cm_step (a b : Nat) : cm a b = (if a % 2 = 1 then b else 0) ^^^ 2 * cm (a / 2) b := by
  have h1 : bl (a / 2) ≤ bl a := bl_mono (by omega)
  have := cmF_more (bl a + 1) a b (by omega)
  unfold cm
  rw [← this]
  simp only [cmF]
  rw [cmF_more _ (a / 2) b (by omega)]
theorem cm_two_left (a b : Nat) : cm (2 * a) b = 2 * cm a b := by
  rw [cm_step, show 2 * a % 2 = 0 by omega, show 2 * a / 2 = a by omega]; simp
theorem cm_odd_left (a b : Nat) : cm (2 * a + 1) b = b ^^^ 2 * cm a b := by
  rw [cm_step, show (2 * a + 1) % 2 = 1 by omega, show (2 * a + 1) / 2 = a by omega]; simp
theorem cm_one_left (b : Nat) : cm 1 b = b := by
  have := cm_odd_left 0 b; simpa [cm_zero_left] using this

/-- Induction over parts. -/
theorem bitsInd {p : Nat → Prop} (h0 : p 0) (h2 : ∀ a, p a → p (2 * a)) (h1 : ∀ a, p a → p (2 * a + 1)) (a : Nat) : p a := by
  induction a using Nat.strongRecOn with
  | _ a ih =>
    by_cases h : a = 0
    · exact h ▸ h0
    · by_cases he : a % 2 = 0
      · have := h2 (a / 2) (ih _ (by omega)); rwa [show 2 * (a / 2) = a by omega] at this
      · have := h1 (a / 2) (ih _ (by omega)); rwa [show 2 * (a / 2) + 1 = a by omega] at this

theorem cm_zero_right (a : Nat) : cm a 0 = 0 := by
  induction a using bitsInd with
  | h0 => rfl
  | h2 a ih => rw [cm_two_left, ih]
  | h1 a ih => rw [cm_odd_left, ih]; rfl
theorem cm_two_right (a b : Nat) : cm a (2 * b) = 2 * cm a b := by
  induction a using bitsInd with
  | h0 => rfl
  | h2 a ih => rw [cm_two_left, cm_two_left, ih]
  | h1 a ih => rw [cm_odd_left, cm_odd_left, ih, two_xor]
theorem cm_xor_right (a b c : Nat) : cm a (b ^^^ c) = cm a b ^^^ cm a c := by
  induction a using bitsInd with
  | h0 => simp [cm_zero_left]
  | h2 a ih => rw [cm_two_left, cm_two_left, cm_two_left, ih, two_xor]
  | h1 a ih => rw [cm_odd_left, cm_odd_left, cm_odd_left, ih, two_xor]; ac_rfl
theorem cm_one_right (a : Nat) : cm a 1 = a := by
  induction a using bitsInd with
  | h0 => rfl
  | h2 a ih => rw [cm_two_left, ih]
  | h1 a ih => rw [cm_odd_left, ih, ← odd_xor]
theorem cm_comm (a b : Nat) : cm a b = cm b a := by
  induction a using bitsInd with
  | h0 => rw [cm_zero_right]; rfl
  | h2 a ih => rw [cm_two_left, cm_two_right, ih]
  | h1 a ih => rw [cm_odd_left, odd_xor, cm_xor_right, cm_one_right, cm_two_right, ih]
theorem cm_xor_left (a b c : Nat) : cm (a ^^^ b) c = cm a c ^^^ cm b c := by
  rw [cm_comm, cm_xor_right, cm_comm c, cm_comm c]
theorem cm_assoc (a b c : Nat) : cm (cm a b) c = cm a (cm b c) := by
  induction a using bitsInd with
  | h0 => rfl
  | h2 a ih => rw [cm_two_left, cm_two_left, cm_two_left, ih]
  | h1 a ih => rw [cm_odd_left, cm_xor_left, cm_two_left, ih, cm_odd_left]
instance : Std.Associative cm := ⟨cm_assoc⟩
instance : Std.Commutative cm := ⟨cm_comm⟩
theorem cm_left_comm (a b c : Nat) : cm a (cm b c) = cm b (cm a c) := by rw [← cm_assoc, cm_comm a b, cm_assoc]
theorem cm_pow_left (n b : Nat) : cm (2 ^ n) b = b <<< n := by
  induction n with
  | zero => simp [cm_one_left]
  | succ n ih => rw [Nat.pow_succ, Nat.mul_comm, cm_two_left, ih, Nat.shiftLeft_succ]
theorem cm_pow_right (n b : Nat) : cm b (2 ^ n) = b <<< n := by rw [cm_comm, cm_pow_left]
theorem cm_shl_left (a b n : Nat) : cm (a <<< n) b = cm a b <<< n := by
  rw [← cm_pow_left, cm_assoc, cm_pow_left]
theorem cm_shl_right (a b n : Nat) : cm a (b <<< n) = cm a b <<< n := by
  rw [cm_comm, cm_shl_left, cm_comm]

theorem bl_cm {a b : Nat} (ha : a ≠ 0) (hb : b ≠ 0) : bl (cm a b) + 1 = bl a + bl b := by
  induction a using bitsInd with
  | h0 => exact absurd rfl ha
  | h2 a ih =>
    have ha' : a ≠ 0 := by omega
    have hc : cm a b ≠ 0 := by intro e; have := ih ha'; rw [e, bl_zero] at this; have := bl_pos.2 ha'; have := bl_pos.2 hb; omega
    rw [cm_two_left, bl_two_mul hc, bl_two_mul ha']; have := ih ha'; omega
  | h1 a ih =>
    by_cases ha' : a = 0
    · subst ha'; rw [cm_odd_left, cm_zero_left]
      simp; show bl b + 1 = 1 + bl b; omega
    · have hb' := bl_pos.2 hb
      have ha'' := bl_pos.2 ha'
      have hc : cm a b ≠ 0 := by intro e; have := ih ha'; rw [e, bl_zero] at this; omega
      have h1 := bl_two_mul hc
      have h3 := ih ha'
      have h2 : bl (2 * a + 1) = bl a + 1 := by
        rw [odd_xor, bl_xor_ne, bl_two_mul ha']
        rw [bl_two_mul ha']; show 1 < _; omega
      rw [cm_odd_left, bl_xor_ne (by omega), h1, h2]; omega
theorem cm_eq_zero {a b : Nat} : cm a b = 0 ↔ a = 0 ∨ b = 0 := by
  constructor
  · intro h
    by_cases ha : a = 0
    · exact .inl ha
    · by_cases hb : b = 0
      · exact .inr hb
      · have := bl_cm ha hb
        have := bl_pos.2 ha; have := bl_pos.2 hb
        rw [h, bl_zero] at *; omega
  · rintro (rfl | rfl)
    · rfl
    · exact cm_zero_right a
theorem cm_cancel {a b c : Nat} (h : c ≠ 0) (e : cm a c = cm b c) : a = b := by
  have : cm (a ^^^ b) c = 0 := by rw [cm_xor_left, e, Nat.xor_self]
  rcases cm_eq_zero.1 this with h' | h'
  · exact xor_eq_zero.1 h'
  · exact absurd h' h

/-- The square of a sum. -/
theorem cm_sq_xor (a b : Nat) : cm (a ^^^ b) (a ^^^ b) = cm a a ^^^ cm b b := by
  rw [cm_xor_left, cm_xor_right, cm_xor_right, cm_comm b a]
  rw [Nat.xor_assoc, xor_cancel]

theorem tb2 (x k : Nat) : (2 * x).testBit (k + 1) = x.testBit k := by rw [Nat.testBit_succ, show 2 * x / 2 = x by omega]
theorem tb21 (x k : Nat) : (2 * x + 1).testBit (k + 1) = x.testBit k := by rw [Nat.testBit_succ, show (2 * x + 1) / 2 = x by omega]
theorem tb20 (x : Nat) : (2 * x).testBit 0 = false := by simp
theorem tb1 (k : Nat) : Nat.testBit 1 (k + 1) = false := by rw [Nat.testBit_succ]; simp
theorem testBit_sq (a i : Nat) : (cm a a).testBit (2 * i) = a.testBit i ∧ (cm a a).testBit (2 * i + 1) = false := by
  induction a using bitsInd generalizing i with
  | h0 => simp [cm_zero_left]
  | h2 a ih =>
    rw [cm_two_left, cm_two_right, tb2]
    cases i with
    | zero => exact ⟨by rw [Nat.mul_zero, tb20, tb20], by rw [Nat.mul_zero, tb20]⟩
    | succ i =>
      rw [show 2 * (i + 1) = (2 * i + 1) + 1 by omega, tb2, tb2, tb2, tb2]
      exact ih i
  | h1 a ih =>
    have e : cm (2 * a + 1) (2 * a + 1) = 1 ^^^ 2 * (2 * cm a a) := by
      rw [odd_xor, cm_sq_xor, cm_one_left, cm_two_left, cm_two_right]
    rw [e, Nat.testBit_xor, Nat.testBit_xor, tb1, tb2]
    cases i with
    | zero => exact ⟨by rw [Nat.mul_zero, tb20]; simp, by rw [Nat.mul_zero, tb20]; rfl⟩
    | succ i =>
      rw [show 2 * (i + 1) = (2 * i + 1) + 1 by omega, tb1, tb2, tb2, tb2, tb21]
      simpa using ih i
end Go.Proofs.Ytaojebdjkpdcdaa.I
