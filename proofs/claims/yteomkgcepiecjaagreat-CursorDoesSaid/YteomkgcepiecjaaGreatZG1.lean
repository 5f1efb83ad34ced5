/- Texts of the ideal machine, or of plain numbers, one behind the other: Gf1, Gf2, Pwr, Fld, Pv, Pv2, Bv, Bm, Bm2. -/
/- Polynomials over the field of two, as whole numbers: sums, products, degrees. Plain Lean. -/
namespace Go.Proofs.YteomkgcepiecjaaGreat.I
def bl (x : Nat) : Nat := if x = 0 then 0 else x.log2 + 1
theorem bl_zero : bl 0 = 0 := rfl
theorem bl_lt {x k : Nat} : bl x ≤ k ↔ x < 2 ^ k := by
  unfold bl
  by_cases h : x = 0
  · simp [h, Nat.pow_pos]
  · simp only [h, if_false]
    rw [Nat.succ_le_iff, Nat.log2_lt h]
theorem lt_bl (x : Nat) : x < 2 ^ bl x := bl_lt.1 (Nat.le_refl _)
theorem bl_ge {x k : Nat} : k < bl x ↔ 2 ^ k ≤ x := by
  have := bl_lt (x := x) (k := k); omega
theorem bl_pos {x : Nat} : 0 < bl x ↔ x ≠ 0 := by
  have := bl_ge (x := x) (k := 0); simp at this; omega
theorem bl_eq_zero {x : Nat} : bl x = 0 ↔ x = 0 := by have := bl_pos (x := x); omega
theorem bl_mono {x y : Nat} (h : x ≤ y) : bl x ≤ bl y := bl_lt.2 (Nat.lt_of_le_of_lt h (lt_bl y))
theorem bl_unique {x k : Nat} (h : 2 ^ k ≤ x) (h' : x < 2 ^ (k + 1)) : bl x = k + 1 := by
  have := bl_ge.2 h; have := bl_lt.2 h'; omega
theorem bl_two_mul {x : Nat} (h : x ≠ 0) : bl (2 * x) = bl x + 1 := by
  have h1 := lt_bl x
  have h0 := bl_pos.2 h
  have h2 : 2 ^ (bl x - 1) ≤ x := bl_ge.1 (by omega)
  refine bl_unique ?_ ?_
  · have : 2 ^ bl x = 2 * 2 ^ (bl x - 1) := by rw [← Nat.pow_succ']; congr 1; omega
    omega
  · rw [Nat.pow_succ]; omega
theorem bl_shl {x : Nat} (h : x ≠ 0) (n : Nat) : bl (x <<< n) = bl x + n := by
  induction n with
  | zero => simp
  | succ n ih =>
    rw [Nat.shiftLeft_succ, bl_two_mul, ih]; · omega
    · rw [Nat.shiftLeft_eq]; exact Nat.mul_ne_zero h (Nat.ne_of_gt (Nat.pow_pos (by omega)))
theorem bl_top {x : Nat} (h : x ≠ 0) : x.testBit (bl x - 1) = true := by
  have h0 := bl_pos.2 h
  have h2 : 2 ^ (bl x - 1) ≤ x := bl_ge.1 (by omega)
  have h1 := lt_bl x
  rw [Nat.testBit_eq_decide_div_mod_eq]
  have e : 2 ^ bl x = 2 * 2 ^ (bl x - 1) := by rw [← Nat.pow_succ']; congr 1; omega
  have : x / 2 ^ (bl x - 1) = 1 := by
    apply Nat.div_eq_of_lt_le <;> omega
  simp [this]
theorem bl_xor_le (x y : Nat) : bl (x ^^^ y) ≤ max (bl x) (bl y) := by
  rw [bl_lt]
  refine Nat.xor_lt_two_pow ?_ ?_
  · exact Nat.lt_of_lt_of_le (lt_bl x) (Nat.pow_le_pow_right (by omega) (by omega))
  · exact Nat.lt_of_lt_of_le (lt_bl y) (Nat.pow_le_pow_right (by omega) (by omega))
theorem testBit_bl {x k : Nat} (h : bl x ≤ k) : x.testBit k = false := Nat.testBit_lt_two_pow (bl_lt.1 h)
theorem bl_of_testBit {x k : Nat} (h : x.testBit k = true) : k < bl x := by
  rcases Nat.lt_or_ge k (bl x) with h' | h'
  · exact h'
  · rw [testBit_bl h'] at h; cases h
theorem bl_xor_ne {x y : Nat} (h : bl x < bl y) : bl (x ^^^ y) = bl y := by
  have h1 := bl_xor_le x y
  have h0 : y ≠ 0 := bl_pos.1 (by omega)
  have : (x ^^^ y).testBit (bl y - 1) = true := by rw [Nat.testBit_xor, bl_top h0, testBit_bl (x := x) (by omega)]; rfl
  have := bl_of_testBit this
  omega
theorem bl_xor_lt {x y : Nat} (h : bl x = bl y) (h0 : x ≠ 0) : bl (x ^^^ y) < bl x := by
  have h1 := bl_xor_le x y
  have hp := bl_pos.2 h0
  have h0' : y ≠ 0 := bl_pos.1 (by omega)
  rcases Nat.lt_or_ge (bl (x ^^^ y)) (bl x) with h' | h'
  · exact h'
  · have e : bl (x ^^^ y) = bl x := by omega
    have : (x ^^^ y).testBit (bl x - 1) = true := by rw [← e]; exact bl_top (by intro e'; rw [e', bl_zero] at e; omega)
    rw [Nat.testBit_xor, bl_top h0, h, bl_top h0'] at this
    cases this
theorem xor_cancel (a b : Nat) : a ^^^ (a ^^^ b) = b := by rw [← Nat.xor_assoc, Nat.xor_self, Nat.zero_xor]
theorem xor_cancel' (a b : Nat) : a ^^^ b ^^^ b = a := by rw [Nat.xor_assoc, Nat.xor_self, Nat.xor_zero]
theorem xor_eq_zero {a b : Nat} : a ^^^ b = 0 ↔ a = b := by
  constructor
  · intro h; have := xor_cancel' a b; rw [h, Nat.zero_xor] at this; exact this.symm
  · rintro rfl; exact Nat.xor_self _
theorem xor_eq {a b c : Nat} : a ^^^ b = c ↔ a = c ^^^ b := by
  constructor
  · rintro rfl; exact (xor_cancel' a b).symm
  · rintro rfl; exact xor_cancel' c b
theorem xor_left_comm (a b c : Nat) : a ^^^ (b ^^^ c) = b ^^^ (a ^^^ c) := by rw [← Nat.xor_assoc, Nat.xor_comm a b, Nat.xor_assoc]
theorem two_xor (a b : Nat) : 2 * (a ^^^ b) = 2 * a ^^^ 2 * b := by
  have := Nat.shiftLeft_xor_distrib (a := a) (b := b) (i := 1)
  simpa [Nat.shiftLeft_eq, Nat.mul_comm] using this
theorem shl_xor (a b n : Nat) : (a ^^^ b) <<< n = a <<< n ^^^ b <<< n := Nat.shiftLeft_xor_distrib
theorem odd_xor (a : Nat) : 2 * a + 1 = 1 ^^^ 2 * a := by
  apply Nat.eq_of_testBit_eq
  intro i
  cases i with
  | zero => simp
  | succ i =>
    rw [Nat.testBit_xor, Nat.testBit_succ, Nat.testBit_succ 1, Nat.testBit_succ (2 * a)]
    rw [show (2 * a + 1) / 2 = a by omega, show 2 * a / 2 = a by omega, show 1 / 2 = 0 by rfl]
    simp
def cmF : Nat → Nat → Nat → Nat
  | 0, _, _ => 0
  | k + 1, a, b => (if a % 2 = 1 then b else 0) ^^^ 2 * cmF k (a / 2) b
def cm (a b : Nat) : Nat := cmF (bl a) a b
theorem cmF_more : ∀ k a b, bl a ≤ k → cmF k a b = cmF (bl a) a b
  | 0, a, b, h => by rw [show bl a = 0 by omega]
  | k + 1, a, b, h => by
    by_cases ha : a = 0
    · subst ha
      have : ∀ k, cmF k 0 b = 0 := by
        intro k; induction k with
        | zero => rfl
        | succ k ih => simp [cmF, ih]
      rw [this, this]
    · have h1 : bl (a / 2) + 1 = bl a := by
        by_cases h2 : a / 2 = 0
        · have : a = 1 := by omega
          subst this; rfl
        · have h3 := bl_two_mul h2
          have h4 : bl (2 * (a / 2)) ≤ bl a := bl_mono (by omega)
          have h5 := lt_bl (2 * (a / 2))
          have h6 : bl a ≤ bl (2 * (a / 2)) := by
            rw [bl_lt]
            have h7 : 2 ^ bl (2 * (a / 2)) = 2 * 2 ^ bl (a / 2) := by rw [h3, Nat.pow_succ, Nat.mul_comm]
            have h8 := lt_bl (a / 2)
            omega
          omega
      rw [← h1]
      simp only [cmF]
      rw [cmF_more k (a / 2) b (by omega)]
theorem cm_zero_left (b : Nat) : cm 0 b = 0 := rfl
theorem cm_step (a b : Nat) : cm a b = (if a % 2 = 1 then b else 0) ^^^ 2 * cm (a / 2) b := by
  have h1 : bl (a / 2) ≤ bl a := bl_mono (by omega)
  have := cmF_more (bl a + 1) a b (by omega)
  unfold cm
  rw [← this]
  simp only [cmF]
  rw [cmF_more _ (a / 2) b (by omega)]
theorem cm_two_left (a b : Nat) : cm (2 * a) b = 2 * cm a b := by
  rw [cm_step, show 2 * a % 2 = 0 by omega, show 2 * a / 2 = a by omega]; simp
theorem cm_odd_left (a b : Nat) : cm (2 * a + 1) b = b ^^^ 2 * cm a b := by
  rw [cm_step, show (2 * a + 1) % 2 = 1 by omega, show (2 * a + 1) / 2 = a by omega]; simp
theorem cm_one_left (b : Nat) : cm 1 b = b := by
  have := cm_odd_left 0 b; simpa [cm_zero_left] using this
theorem bitsInd {p : Nat → Prop} (h0 : p 0) (h2 : ∀ a, p a → p (2 * a)) (h1 : ∀ a, p a → p (2 * a + 1)) (a : Nat) : p a := by
  induction a using Nat.strongRecOn with
  | _ a ih =>
    by_cases h : a = 0
    · exact h ▸ h0
    · by_cases he : a % 2 = 0
      · have := h2 (a / 2) (ih _ (by omega)); rwa [show 2 * (a / 2) = a by omega] at this
      · have := h1 (a / 2) (ih _ (by omega)); rwa [show 2 * (a / 2) + 1 = a by omega] at this
theorem cm_zero_right (a : Nat) : cm a 0 = 0 := by
  induction a using bitsInd with
  | h0 => rfl
  | h2 a ih => rw [cm_two_left, ih]
  | h1 a ih => rw [cm_odd_left, ih]; rfl
theorem cm_two_right (a b : Nat) : cm a (2 * b) = 2 * cm a b := by
  induction a using bitsInd with
  | h0 => rfl
  | h2 a ih => rw [cm_two_left, cm_two_left, ih]
  | h1 a ih => rw [cm_odd_left, cm_odd_left, ih, two_xor]
theorem cm_xor_right (a b c : Nat) : cm a (b ^^^ c) = cm a b ^^^ cm a c := by
  induction a using bitsInd with
  | h0 => simp [cm_zero_left]
  | h2 a ih => rw [cm_two_left, cm_two_left, cm_two_left, ih, two_xor]
  | h1 a ih => rw [cm_odd_left, cm_odd_left, cm_odd_left, ih, two_xor]; ac_rfl
theorem cm_one_right (a : Nat) : cm a 1 = a := by
  induction a using bitsInd with
  | h0 => rfl
  | h2 a ih => rw [cm_two_left, ih]
  | h1 a ih => rw [cm_odd_left, ih, ← odd_xor]
theorem cm_comm (a b : Nat) : cm a b = cm b a := by
  induction a using bitsInd with
  | h0 => rw [cm_zero_right]; rfl
  | h2 a ih => rw [cm_two_left, cm_two_right, ih]
  | h1 a ih => rw [cm_odd_left, odd_xor, cm_xor_right, cm_one_right, cm_two_right, ih]
theorem cm_xor_left (a b c : Nat) : cm (a ^^^ b) c = cm a c ^^^ cm b c := by
  rw [cm_comm, cm_xor_right, cm_comm c, cm_comm c]
theorem cm_assoc (a b c : Nat) : cm (cm a b) c = cm a (cm b c) := by
  induction a using bitsInd with
  | h0 => rfl
  | h2 a ih => rw [cm_two_left, cm_two_left, cm_two_left, ih]
  | h1 a ih => rw [cm_odd_left, cm_xor_left, cm_two_left, ih, cm_odd_left]
instance : Std.Associative cm := ⟨cm_assoc⟩
instance : Std.Commutative cm := ⟨cm_comm⟩
theorem cm_left_comm (a b c : Nat) : cm a (cm b c) = cm b (cm a c) := by rw [← cm_assoc, cm_comm a b, cm_assoc]
theorem cm_pow_left (n b : Nat) : cm (2 ^ n) b = b <<< n := by
  induction n with
  | zero => simp [cm_one_left]
  | succ n ih => rw [Nat.pow_succ, Nat.mul_comm, cm_two_left, ih, Nat.shiftLeft_succ]
theorem cm_pow_right (n b : Nat) : cm b (2 ^ n) = b <<< n := by rw [cm_comm, cm_pow_left]
theorem cm_shl_left (a b n : Nat) : cm (a <<< n) b = cm a b <<< n := by
  rw [← cm_pow_left, cm_assoc, cm_pow_left]
theorem cm_shl_right (a b n : Nat) : cm a (b <<< n) = cm a b <<< n := by
  rw [cm_comm, cm_shl_left, cm_comm]
theorem bl_cm {a b : Nat} (ha : a ≠ 0) (hb : b ≠ 0) : bl (cm a b) + 1 = bl a + bl b := by
  induction a using bitsInd with
  | h0 => exact absurd rfl ha
  | h2 a ih =>
    have ha' : a ≠ 0 := by omega
    have hc : cm a b ≠ 0 := by intro e; have := ih ha'; rw [e, bl_zero] at this; have := bl_pos.2 ha'; have := bl_pos.2 hb; omega
    rw [cm_two_left, bl_two_mul hc, bl_two_mul ha']; have := ih ha'; omega
  | h1 a ih =>
    by_cases ha' : a = 0
    · subst ha'; rw [cm_odd_left, cm_zero_left]
      simp; show bl b + 1 = 1 + bl b; omega
    · have hb' := bl_pos.2 hb
      have ha'' := bl_pos.2 ha'
      have hc : cm a b ≠ 0 := by intro e; have := ih ha'; rw [e, bl_zero] at this; omega
      have h1 := bl_two_mul hc
      have h3 := ih ha'
      have h2 : bl (2 * a + 1) = bl a + 1 := by
        rw [odd_xor, bl_xor_ne, bl_two_mul ha']
        rw [bl_two_mul ha']; show 1 < _; omega
      rw [cm_odd_left, bl_xor_ne (by omega), h1, h2]; omega
theorem cm_eq_zero {a b : Nat} : cm a b = 0 ↔ a = 0 ∨ b = 0 := by
  constructor
  · intro h
    by_cases ha : a = 0
    · exact .inl ha
    · by_cases hb : b = 0
      · exact .inr hb
      · have := bl_cm ha hb
        have := bl_pos.2 ha; have := bl_pos.2 hb
        rw [h, bl_zero] at *; omega
  · rintro (rfl | rfl)
    · rfl
    · exact cm_zero_right a
theorem cm_sq_xor (a b : Nat) : cm (a ^^^ b) (a ^^^ b) = cm a a ^^^ cm b b := by
  rw [cm_xor_left, cm_xor_right, cm_xor_right, cm_comm b a]
  rw [Nat.xor_assoc, xor_cancel]
theorem tb2 (x k : Nat) : (2 * x).testBit (k + 1) = x.testBit k := by rw [Nat.testBit_succ, show 2 * x / 2 = x by omega]
theorem tb20 (x : Nat) : (2 * x).testBit 0 = false := by simp
end Go.Proofs.YteomkgcepiecjaaGreat.I
/- Polynomials over the field of two: quotients, rests, the greatest part of both. Plain Lean. -/
namespace Go.Proofs.YteomkgcepiecjaaGreat.I
def qrF : Nat → Nat → Nat → Nat × Nat
  | 0, a, _ => (0, a)
  | k + 1, a, b => if bl a < bl b then (0, a) else
    let p := qrF k (a ^^^ b <<< (bl a - bl b)) b
    (2 ^ (bl a - bl b) ^^^ p.1, p.2)
def qr (a b : Nat) : Nat × Nat := qrF (bl a + 1) a b
def qd (a b : Nat) : Nat := (qr a b).1
def rm (a b : Nat) : Nat := (qr a b).2
theorem red_lt {a b : Nat} (hb : b ≠ 0) (h : bl b ≤ bl a) : bl (a ^^^ b <<< (bl a - bl b)) < bl a := by
  refine bl_xor_lt ?_ (bl_pos.1 (by have := bl_pos.2 hb; omega))
  rw [bl_shl hb]; omega
theorem qrF_spec {b : Nat} (hb : b ≠ 0) : ∀ k a, bl a < k → a = cm (qrF k a b).1 b ^^^ (qrF k a b).2 ∧ bl (qrF k a b).2 < bl b
  | 0, a, h => by omega
  | k + 1, a, h => by
    unfold qrF
    split
    · rename_i hlt
      exact ⟨by simp [cm_zero_left], hlt⟩
    · rename_i hlt
      have hr := red_lt (a := a) hb (by omega)
      obtain ⟨h1, h2⟩ := qrF_spec hb k (a ^^^ b <<< (bl a - bl b)) (by omega)
      refine ⟨?_, h2⟩
      show a = cm (2 ^ (bl a - bl b) ^^^ _) b ^^^ _
      rw [cm_xor_left, cm_pow_left, Nat.xor_assoc, ← h1, xor_left_comm, Nat.xor_self, Nat.xor_zero]
theorem qr_spec (a : Nat) {b : Nat} (hb : b ≠ 0) : a = cm (qd a b) b ^^^ rm a b ∧ bl (rm a b) < bl b := qrF_spec hb _ a (by omega)
theorem qr_unique {b q r q' r' : Nat} (h : cm q b ^^^ r = cm q' b ^^^ r') (h1 : bl r < bl b) (h2 : bl r' < bl b) : q = q' ∧ r = r' := by
  have hb : b ≠ 0 := bl_pos.1 (by omega)
  have e : cm (q ^^^ q') b = r ^^^ r' := by
    rw [cm_xor_left, xor_eq.1 h]
    rw [show cm q' b ^^^ r' ^^^ r ^^^ cm q' b = cm q' b ^^^ cm q' b ^^^ (r ^^^ r') by ac_rfl, Nat.xor_self, Nat.zero_xor]
  have hq : q = q' := by
    rw [← xor_eq_zero]
    rcases Decidable.em (q ^^^ q' = 0) with h0 | h0
    · exact h0
    · have := bl_cm h0 hb
      have := bl_pos.2 h0
      have := bl_xor_le r r'
      rw [e] at *; omega
  subst hq
  rw [Nat.xor_self, cm_zero_left] at e
  exact ⟨rfl, xor_eq_zero.1 e.symm⟩
theorem qr_eq {a b q r : Nat} (h : a = cm q b ^^^ r) (hr : bl r < bl b) : qd a b = q ∧ rm a b = r := by
  have hb : b ≠ 0 := bl_pos.1 (by omega)
  obtain ⟨h1, h2⟩ := qr_spec a hb
  exact qr_unique (h1.symm.trans h) h2 hr
def dv (a b : Nat) : Prop := ∃ k, b = cm k a
theorem dv_refl (a : Nat) : dv a a := ⟨1, (cm_one_left a).symm⟩
theorem dv_zero (a : Nat) : dv a 0 := ⟨0, rfl⟩
theorem dv_trans {a b c : Nat} (h : dv a b) (g : dv b c) : dv a c := by
  obtain ⟨k, rfl⟩ := h; obtain ⟨l, rfl⟩ := g
  exact ⟨cm l k, (cm_assoc _ _ _).symm⟩
theorem dv_xor {a b c : Nat} (h : dv a b) (g : dv a c) : dv a (b ^^^ c) := by
  obtain ⟨k, rfl⟩ := h; obtain ⟨l, rfl⟩ := g
  exact ⟨k ^^^ l, (cm_xor_left _ _ _).symm⟩
theorem dv_mul {a b : Nat} (h : dv a b) (c : Nat) : dv a (cm c b) := by
  obtain ⟨k, rfl⟩ := h
  exact ⟨cm c k, (cm_assoc _ _ _).symm⟩
theorem dv_mul_right {a b : Nat} (h : dv a b) (c : Nat) : dv a (cm b c) := by rw [cm_comm]; exact dv_mul h c
theorem dv_mul_self' (a c : Nat) : dv a (cm a c) := ⟨c, cm_comm _ _⟩
theorem dv_one (a : Nat) : dv 1 a := ⟨a, (cm_one_right a).symm⟩
theorem dv_of_zero {a : Nat} (h : dv 0 a) : a = 0 := by obtain ⟨k, rfl⟩ := h; exact cm_zero_right k
theorem dv_bl {a b : Nat} (h : dv a b) (hb : b ≠ 0) : bl a ≤ bl b := by
  obtain ⟨k, rfl⟩ := h
  have hk : k ≠ 0 := by rintro rfl; exact hb rfl
  have ha : a ≠ 0 := by rintro rfl; exact hb (cm_zero_right k)
  have := bl_cm hk ha
  have := bl_pos.2 hk
  omega
theorem dv_antisymm {a b : Nat} (h : dv a b) (g : dv b a) : a = b := by
  by_cases hb : b = 0
  · subst hb; exact dv_of_zero g
  by_cases ha : a = 0
  · subst ha; exact (dv_of_zero h).symm
  have h1 := dv_bl h hb
  have h2 := dv_bl g ha
  obtain ⟨k, rfl⟩ := h
  have hk : k ≠ 0 := by rintro rfl; exact hb rfl
  have h3 := bl_cm hk ha
  have hk1 : bl k = 1 := by omega
  have : k = 1 := by
    have := lt_bl k; rw [hk1] at this; omega
  rw [this, cm_one_left]
theorem rm_zero_iff {a b : Nat} (hb : b ≠ 0) : rm a b = 0 ↔ dv b a := by
  obtain ⟨h1, h2⟩ := qr_spec a hb
  constructor
  · intro h; rw [h, Nat.xor_zero] at h1; exact ⟨_, h1⟩
  · rintro ⟨k, rfl⟩
    exact (qr_eq (q := k) (r := 0) (by simp) (by have := bl_pos.2 hb; simpa [bl_zero] using this)).2
def cg (p a b : Nat) : Prop := dv p (a ^^^ b)
theorem cg_refl (p a : Nat) : cg p a a := by unfold cg; rw [Nat.xor_self]; exact dv_zero p
theorem cg_symm {p a b : Nat} (h : cg p a b) : cg p b a := by unfold cg at *; rwa [Nat.xor_comm]
theorem cg_trans {p a b c : Nat} (h : cg p a b) (g : cg p b c) : cg p a c := by
  have := dv_xor h g
  rwa [Nat.xor_assoc, xor_cancel] at this
theorem cg_xor {p a b c d : Nat} (h : cg p a b) (g : cg p c d) : cg p (a ^^^ c) (b ^^^ d) := by
  have := dv_xor h g
  unfold cg
  rwa [show a ^^^ c ^^^ (b ^^^ d) = a ^^^ b ^^^ (c ^^^ d) by ac_rfl]
theorem cg_cm {p a b c d : Nat} (h : cg p a b) (g : cg p c d) : cg p (cm a c) (cm b d) := by
  have h1 : dv p (cm a c ^^^ cm b c) := by rw [← cm_xor_left]; exact dv_mul_right h c
  have h2 : dv p (cm b c ^^^ cm b d) := by rw [← cm_xor_right]; exact dv_mul g b
  exact cg_trans h1 h2
theorem cg_rm (a : Nat) {p : Nat} (hp : p ≠ 0) : cg p (rm a p) a := by
  obtain ⟨h1, _⟩ := qr_spec a hp
  refine ⟨qd a p, ?_⟩
  rw [xor_eq]
  exact (xor_eq.1 (by rw [Nat.xor_comm]; exact h1.symm)).trans (Nat.xor_comm _ _)
theorem rm_lt (a : Nat) {p : Nat} (hp : p ≠ 0) : bl (rm a p) < bl p := (qr_spec a hp).2
theorem rm_eq_iff {a b p : Nat} (hp : p ≠ 0) : rm a p = rm b p ↔ cg p a b := by
  constructor
  · intro h; exact cg_trans (cg_symm (cg_rm a hp)) (by rw [h]; exact cg_rm b hp)
  · rintro ⟨k, hk⟩
    obtain ⟨h1, h2⟩ := qr_spec b hp
    have : a = cm (k ^^^ qd b p) p ^^^ rm b p := by
      rw [cm_xor_left, ← hk, Nat.xor_assoc, ← h1, Nat.xor_assoc, Nat.xor_self, Nat.xor_zero]
    exact (qr_eq this h2).2
theorem rm_small {a p : Nat} (h : bl a < bl p) : rm a p = a := (qr_eq (q := 0) (by rw [cm_zero_left, Nat.zero_xor]) h).2
theorem rm_unique {a r p : Nat} (h : bl r < bl p) (g : cg p r a) : rm a p = r := by
  have hp : p ≠ 0 := bl_pos.1 (by omega)
  rw [← rm_small h]; exact (rm_eq_iff hp).2 (cg_symm g)
theorem rm_cm (a b : Nat) {p : Nat} (hp : p ≠ 0) : rm (cm (rm a p) (rm b p)) p = rm (cm a b) p :=
  (rm_eq_iff hp).2 (cg_cm (cg_rm a hp) (cg_rm b hp))
def egF : Nat → Nat → Nat → Nat → Nat → Nat × Nat
  | 0, r, s, _, _ => (r, s)
  | k + 1, r, s, r', s' => if r' = 0 then (r, s) else egF k r' s' (rm r r') (s ^^^ cm (qd r r') s')
def eg (a b : Nat) : Nat × Nat := egF (bl b + 1) a 1 b 0
def gd (a b : Nat) : Nat := (eg a b).1
def rowOk (a b r s : Nat) : Prop := cg b (cm s a) r
theorem egF_spec (a b : Nat) : ∀ k r s r' s', bl r' < k → rowOk a b r s → rowOk a b r' s' →
    rowOk a b (egF k r s r' s').1 (egF k r s r' s').2 ∧ (∀ d, dv d (egF k r s r' s').1 ↔ dv d r ∧ dv d r')
  | 0, _, _, _, _, h, _, _ => by omega
  | k + 1, r, s, r', s', h, h1, h2 => by
    unfold egF
    split
    · rename_i h0; subst h0
      exact ⟨h1, fun d => ⟨fun hd => ⟨hd, dv_zero d⟩, fun hd => hd.1⟩⟩
    · rename_i h0
      obtain ⟨e1, e2⟩ := qr_spec r h0
      have e3 : rm r r' = r ^^^ cm (qd r r') r' := by
        rw [Nat.xor_comm] at e1; exact xor_eq.1 e1.symm
      have h3 : rowOk a b (rm r r') (s ^^^ cm (qd r r') s') := by
        unfold rowOk
        rw [e3, cm_xor_left, cm_assoc]
        exact cg_xor h1 (cg_cm (cg_refl _ _) h2)
      obtain ⟨h4, h5⟩ := egF_spec a b k r' s' (rm r r') _ (by omega) h2 h3
      refine ⟨h4, fun d => ?_⟩
      rw [h5, e3]
      constructor
      · rintro ⟨g1, g2⟩
        refine ⟨?_, g1⟩
        have := dv_xor g2 (dv_mul g1 (qd r r'))
        rwa [xor_cancel'] at this
      · rintro ⟨g1, g2⟩
        exact ⟨g2, dv_xor g1 (dv_mul g2 _)⟩
theorem eg_spec (a b : Nat) : cg b (cm (eg a b).2 a) (gd a b) ∧ ∀ d, dv d (gd a b) ↔ dv d a ∧ dv d b := by
  refine egF_spec a b _ a 1 b 0 (by omega) ?_ ?_
  · unfold rowOk; rw [cm_one_left]; exact cg_refl _ _
  · unfold rowOk cg; rw [cm_zero_left, Nat.zero_xor]; exact dv_refl b
theorem gd_dv_left (a b : Nat) : dv (gd a b) a := (((eg_spec a b).2 _).1 (dv_refl _)).1
theorem gd_dv_right (a b : Nat) : dv (gd a b) b := (((eg_spec a b).2 _).1 (dv_refl _)).2
theorem dv_gd {a b d : Nat} (h : dv d a) (g : dv d b) : dv d (gd a b) := ((eg_spec a b).2 _).2 ⟨h, g⟩
theorem gd_bezout (a b : Nat) : ∃ s t, gd a b = cm s a ^^^ cm t b := by
  obtain ⟨k, hk⟩ := (eg_spec a b).1
  refine ⟨(eg a b).2, k, ?_⟩
  rw [Nat.xor_comm] at hk
  rw [xor_eq.1 hk, Nat.xor_comm]
end Go.Proofs.YteomkgcepiecjaaGreat.I
/- Powers as rests. -/
namespace Go.Proofs.YteomkgcepiecjaaGreat.I
open Go
set_option linter.unusedSimpArgs false
set_option linter.unusedVariables false
def pwr (a p : Nat) : Nat → Nat
  | 0 => rm 1 p
  | n + 1 => rm (cm (pwr a p n) a) p
theorem pwr_lt (a : Nat) {p : Nat} (hp : p ≠ 0) (n : Nat) : bl (pwr a p n) < bl p := by cases n <;> exact rm_lt _ hp
theorem pwr_rm (a : Nat) {p : Nat} (hp : p ≠ 0) (n : Nat) : rm (pwr a p n) p = pwr a p n := rm_small (pwr_lt a hp n)
theorem pwr_succ (a p n : Nat) : pwr a p (n + 1) = rm (cm (pwr a p n) a) p := rfl
theorem rm_cm_left (a b : Nat) {p : Nat} (hp : p ≠ 0) : rm (cm (rm a p) b) p = rm (cm a b) p :=
  (rm_eq_iff hp).2 (cg_cm (cg_rm a hp) (cg_refl _ _))
theorem rm_cm_right (a b : Nat) {p : Nat} (hp : p ≠ 0) : rm (cm a (rm b p)) p = rm (cm a b) p :=
  (rm_eq_iff hp).2 (cg_cm (cg_refl _ _) (cg_rm b hp))
theorem pwr_add (a : Nat) {p : Nat} (hp : p ≠ 0) (n m : Nat) : pwr a p (n + m) = rm (cm (pwr a p n) (pwr a p m)) p := by
  induction m with
  | zero =>
    show pwr a p n = rm (cm (pwr a p n) (rm 1 p)) p
    rw [rm_cm_right _ _ hp, cm_one_right, pwr_rm a hp]
  | succ m ih =>
    rw [Nat.add_succ, pwr_succ, ih, rm_cm_left _ _ hp, pwr_succ, rm_cm_right _ _ hp, cm_assoc]
theorem pwr_mul (a : Nat) {p : Nat} (hp : p ≠ 0) (n m : Nat) : pwr (pwr a p n) p m = pwr a p (n * m) := by
  induction m with
  | zero => rfl
  | succ m ih => rw [pwr_succ, ih, Nat.mul_succ, pwr_add a hp]
theorem pwr_one (a : Nat) {p : Nat} (hp : p ≠ 0) : pwr a p 1 = rm a p := by
  show rm (cm (rm 1 p) a) p = rm a p
  rw [rm_cm_left _ _ hp, cm_one_left]
theorem pwr_bit (a : Nat) {p : Nat} (hp : p ≠ 0) (n i : Nat) : pwr a p (n >>> i) =
    if n.testBit i = true then rm (cm (rm (cm (pwr a p (n >>> (i + 1))) (pwr a p (n >>> (i + 1)))) p) (rm a p)) p else rm (cm (pwr a p (n >>> (i + 1))) (pwr a p (n >>> (i + 1)))) p := by
  have e : n >>> i = (n >>> (i + 1) + n >>> (i + 1)) + if n.testBit i = true then 1 else 0 := by
    have h1 : n >>> (i + 1) = n >>> i / 2 := by rw [Nat.shiftRight_succ]
    have h2 : n.testBit i = decide (n >>> i % 2 = 1) := by rw [Nat.testBit_eq_decide_div_mod_eq, Nat.shiftRight_eq_div_pow]
    rw [h1, h2]
    by_cases h3 : n >>> i % 2 = 1
    · rw [if_pos (decide_eq_true h3)]; omega
    · rw [if_neg (fun h => h3 (of_decide_eq_true h))]; omega
  rw [e, ← pwr_add a hp]
  split
  · rw [pwr_add a hp _ 1, pwr_one a hp]
  · rw [Nat.add_zero]
def sqn (a p : Nat) : Nat → Nat
  | 0 => rm a p
  | n + 1 => rm (cm (sqn a p n) (sqn a p n)) p
theorem sqn_pwr (a : Nat) {p : Nat} (hp : p ≠ 0) (n : Nat) : sqn a p n = pwr a p (2 ^ n) := by
  induction n with
  | zero => exact (pwr_one a hp).symm
  | succ n ih => rw [sqn, ih, ← pwr_add a hp, Nat.pow_succ]; congr 1; omega
end Go.Proofs.YteomkgcepiecjaaGreat.I
/- Fields of polynomials: what nothing parts, Fermat, the test. -/
namespace Go.Proofs.YteomkgcepiecjaaGreat.I
open Go
set_option linter.unusedSimpArgs false
set_option linter.unusedVariables false
def Irr (p : Nat) : Prop := 2 ≤ bl p ∧ ∀ q, dv q p → q = 1 ∨ q = p
theorem Irr.ne {p : Nat} (h : Irr p) : p ≠ 0 := by rintro rfl; have := h.1; rw [bl_zero] at this; omega
theorem Irr.not_one {p : Nat} (h : Irr p) : ¬ dv p 1 := fun d => by
  have := dv_bl d (by decide); have h1 := h.1; have : bl 1 = 1 := rfl; omega
theorem Irr.prime {p a b : Nat} (h : Irr p) (d : dv p (cm a b)) : dv p a ∨ dv p b := by
  rcases h.2 (gd p a) (gd_dv_left p a) with e | e
  · right
    obtain ⟨s, t, e'⟩ := gd_bezout p a
    rw [e] at e'
    have : b = cm (cm s p) b ^^^ cm (cm t a) b := by rw [← cm_xor_left, ← e', cm_one_left]
    rw [this]
    refine dv_xor ?_ ?_
    · rw [cm_comm s p, cm_assoc]; exact dv_mul_self' _ _
    · rw [cm_assoc]; exact dv_mul d t
  · left; rw [← e]; exact gd_dv_right p a
theorem Irr.cancel {p a x y : Nat} (h : Irr p) (ha : ¬ dv p a) (e : cg p (cm a x) (cm a y)) : cg p x y := by
  unfold cg at e ⊢
  rw [← cm_xor_right] at e
  exact (h.prime e).resolve_left ha
def cpw (a : Nat) : Nat → Nat
  | 0 => 1
  | n + 1 => cm (cpw a n) a
theorem pwr_cpw (a : Nat) {p : Nat} (hp : p ≠ 0) (n : Nat) : pwr a p n = rm (cpw a n) p := by
  induction n with
  | zero => rfl
  | succ n ih => rw [pwr_succ, ih, rm_cm_left _ _ hp]; rfl
theorem cpw_add (a n m : Nat) : cpw a (n + m) = cm (cpw a n) (cpw a m) := by
  induction m with
  | zero => exact (cm_one_right _).symm
  | succ m ih => rw [← Nat.add_assoc, cpw, ih, cm_assoc]; rfl
theorem cpw_one (a : Nat) : cpw a 1 = a := cm_one_left a
theorem cg_cpw {p a b : Nat} (h : cg p a b) (n : Nat) : cg p (cpw a n) (cpw b n) := by
  induction n with
  | zero => exact cg_refl _ _
  | succ n ih => exact cg_cm ih h
def cprod : List Nat → Nat
  | [] => 1
  | x :: l => cm x (cprod l)
theorem cprod_perm {l l' : List Nat} (h : l.Perm l') : cprod l = cprod l' := by
  induction h with
  | nil => rfl
  | cons x _ ih => rw [cprod, cprod, ih]
  | swap x y l => simp only [cprod]; exact cm_left_comm _ _ _
  | trans _ _ h1 h2 => exact h1.trans h2
theorem cprod_map {p : Nat} (hp : p ≠ 0) (a : Nat) (l : List Nat) : cg p (cprod (l.map fun x => rm (cm a x) p)) (cm (cpw a l.length) (cprod l)) := by
  induction l with
  | nil => show cg p 1 (cm 1 1); rw [cm_one_left]; exact cg_refl _ _
  | cons x l ih =>
    show cg p (cm (rm (cm a x) p) (cprod (l.map fun x => rm (cm a x) p))) (cm (cm (cpw a l.length) a) (cm x (cprod l)))
    have e : cm (cm (cpw a l.length) a) (cm x (cprod l)) = cm (cm a x) (cm (cpw a l.length) (cprod l)) := by
      rw [cm_assoc, cm_assoc, cm_left_comm a x, cm_left_comm a x, cm_left_comm (cpw a l.length), cm_left_comm (cpw a l.length)]
    rw [e]
    exact cg_cm (cg_rm _ hp) ih
theorem Irr.prod {p : Nat} (h : Irr p) {l : List Nat} (hl : ∀ x ∈ l, ¬ dv p x) : ¬ dv p (cprod l) := by
  induction l with
  | nil => exact h.not_one
  | cons x l ih =>
    intro d
    rcases h.prime d with d | d
    · exact hl x List.mem_cons_self d
    · exact ih (fun y hy => hl y (List.mem_cons_of_mem _ hy)) d
theorem perm_of {l : List Nat} : ∀ {l' : List Nat}, l.Nodup → (∀ x ∈ l, x ∈ l') → l'.length ≤ l.length → l.Perm l' := by
  induction l with
  | nil => intro l' _ _ h; have : l' = [] := List.eq_nil_of_length_eq_zero (by simpa using h); rw [this]
  | cons x t ih =>
    intro l' hn hm hl
    have hx := hm x List.mem_cons_self
    rw [List.nodup_cons] at hn
    refine (List.Perm.cons x (ih hn.2 (fun y hy => ?_) ?_)).trans (List.perm_cons_erase hx).symm
    · exact (List.mem_erase_of_ne (fun (e : y = x) => hn.1 (by rw [← e]; exact hy))).2 (hm y (List.mem_cons_of_mem _ hy))
    · rw [List.length_erase_of_mem hx]; simp at hl; omega
theorem dv_small {p x : Nat} (h : dv p x) (hx : bl x < bl p) : x = 0 := by
  rcases Decidable.em (x = 0) with e | e
  · exact e
  · have := dv_bl h e; omega
theorem cg_small {p x y : Nat} (h : cg p x y) (hx : bl x < bl p) (hy : bl y < bl p) : x = y := by
  have hp : p ≠ 0 := by rintro rfl; rw [bl_zero] at hx; omega
  have := (rm_eq_iff hp).2 h
  rwa [rm_small hx, rm_small hy] at this
theorem Irr.fermat {p : Nat} (h : Irr p) {a : Nat} (ha : ¬ dv p a) : cg p (cpw a (2 ^ (bl p - 1) - 1)) 1 := by
  have hp := h.ne
  have hb := h.1
  obtain ⟨L, hL⟩ : ∃ L, List.range' 1 (2 ^ (bl p - 1) - 1) = L := ⟨_, rfl⟩
  have mem : ∀ x, x ∈ L ↔ x ≠ 0 ∧ bl x < bl p := fun x => by
    have h0 : 0 < 2 ^ (bl p - 1) := Nat.two_pow_pos _
    have h1 : bl x ≤ bl p - 1 ↔ x < 2 ^ (bl p - 1) := bl_lt
    rw [← hL, List.mem_range'_1]; omega
  have len : L.length = 2 ^ (bl p - 1) - 1 := by rw [← hL]; simp
  have nd : L.Nodup := by rw [← hL]; exact List.nodup_range'
  have hLp : ∀ x ∈ L, ¬ dv p x := fun x hx d => ((mem x).1 hx).1 (dv_small d ((mem x).1 hx).2)
  have pm : (L.map fun x => rm (cm a x) p).Perm L := by
    refine perm_of ?_ (fun y hy => ?_) (by simp)
    · rw [List.nodup_iff_pairwise_ne, List.pairwise_map]
      refine List.Pairwise.imp_of_mem ?_ (List.nodup_iff_pairwise_ne.1 nd)
      intro x y hx hy hne e
      exact hne (cg_small (h.cancel ha ((rm_eq_iff hp).1 e)) ((mem x).1 hx).2 ((mem y).1 hy).2)
    · obtain ⟨x, hx, rfl⟩ := List.mem_map.1 hy
      refine (mem _).2 ⟨fun e => ?_, rm_lt _ hp⟩
      rcases h.prime ((rm_zero_iff hp).1 e) with d | d
      · exact ha d
      · exact hLp x hx d
  have c := cprod_map hp a L
  rw [cprod_perm pm, len] at c
  refine h.cancel (h.prod hLp) ?_
  rw [cm_one_right, cm_comm]
  exact cg_symm c
theorem cpw_two_pow_succ (a i : Nat) : cpw a (2 ^ (i + 1)) = cm (cpw a (2 ^ i)) (cpw a (2 ^ i)) := by
  rw [← cpw_add, Nat.pow_succ]; congr 1; omega
theorem frob_xor (a b i : Nat) : cpw (a ^^^ b) (2 ^ i) = cpw a (2 ^ i) ^^^ cpw b (2 ^ i) := by
  induction i with
  | zero => simp only [Nat.pow_zero, cpw_one]
  | succ i ih => rw [cpw_two_pow_succ, ih, cm_sq_xor, ← cpw_two_pow_succ, ← cpw_two_pow_succ]
theorem frob_cm (a b n : Nat) : cpw (cm a b) n = cm (cpw a n) (cpw b n) := by
  induction n with
  | zero => exact (cm_one_left 1).symm
  | succ n ih =>
    rw [cpw, ih, cpw, cpw, cm_assoc, cm_assoc, cm_left_comm (cpw b n)]
theorem cpw_zero {n : Nat} (h : n ≠ 0) : cpw 0 n = 0 := by
  cases n with
  | zero => omega
  | succ n => exact cm_zero_right _
theorem cpw_unit (n : Nat) : cpw 1 n = 1 := by
  induction n with
  | zero => rfl
  | succ n ih => rw [cpw, ih, cm_one_left]
theorem nat_split (a : Nat) : a = cm 2 (a / 2) ^^^ a % 2 := by
  have e : cm 2 (a / 2) = 2 * (a / 2) := by rw [show (2 : Nat) = 2 * 1 from rfl, cm_two_left, cm_one_left]
  rw [e]
  rcases Nat.mod_two_eq_zero_or_one a with h | h <;> rw [h]
  · rw [Nat.xor_zero]; omega
  · have := cm_odd_left (a / 2) 1
    rw [cm_one_right, cm_one_right, Nat.xor_comm] at this
    rw [← this]; omega
theorem frob_all {p i : Nat} (h : cg p (cpw 2 (2 ^ i)) 2) (a : Nat) : cg p (cpw a (2 ^ i)) a := by
  induction a using Nat.strongRecOn with
  | _ a ih =>
    by_cases h0 : a = 0
    · subst h0; rw [cpw_zero (Nat.pos_iff_ne_zero.1 (Nat.two_pow_pos i))]; exact cg_refl _ _
    · have e := nat_split a
      have c1 : cg p (cpw (a % 2) (2 ^ i)) (a % 2) := by
        rcases Nat.mod_two_eq_zero_or_one a with h | h <;> rw [h]
        · rw [cpw_zero (Nat.pos_iff_ne_zero.1 (Nat.two_pow_pos i))]; exact cg_refl _ _
        · rw [cpw_unit]; exact cg_refl _ _
      have c2 := cg_xor (cg_cm h (ih (a / 2) (by omega))) c1
      rw [← frob_cm, ← frob_xor, ← e] at c2
      exact c2
theorem Irr.back {q : Nat} (h : Irr q) (a : Nat) : cg q (cpw a (2 ^ (bl q - 1))) a := by
  have h0 : 0 < 2 ^ (bl q - 1) := Nat.two_pow_pos _
  rcases Classical.em (dv q a) with d | d
  · have e : cg q a 0 := by unfold cg; rwa [Nat.xor_zero]
    refine cg_trans (cg_cpw e _) ?_
    rw [cpw_zero (by omega)]
    exact cg_symm e
  · have c := cg_cm (h.fermat d) (cg_refl q a)
    rw [cm_one_left] at c
    have e : cm (cpw a (2 ^ (bl q - 1) - 1)) a = cpw a (2 ^ (bl q - 1)) := by
      show cpw a (2 ^ (bl q - 1) - 1 + 1) = _
      congr 1; omega
    rwa [e] at c
def ev (y : Nat) : List Nat → Nat
  | [] => 0
  | c :: cs => c ^^^ cm y (ev y cs)
def qt (r : Nat) : List Nat → List Nat
  | [] => []
  | [_] => []
  | _ :: d :: cs => ev r (d :: cs) :: qt r (d :: cs)
def mon : List Nat → Prop
  | [] => False
  | [c] => c = 1
  | _ :: d :: cs => mon (d :: cs)
theorem qt_len (r : Nat) : ∀ cs : List Nat, (qt r cs).length = cs.length - 1
  | [] => rfl
  | [_] => rfl
  | c :: d :: cs => by show (qt r (d :: cs)).length + 1 = _; rw [qt_len r (d :: cs)]; simp
theorem qt_mon (r : Nat) : ∀ c cs, cs ≠ [] → mon (c :: cs) → mon (qt r (c :: cs))
  | c, [], h, _ => absurd rfl h
  | c, [d], _, h => by
    show d ^^^ cm r 0 = 1
    rw [cm_zero_right, Nat.xor_zero]; exact h
  | c, d :: e :: cs, _, h => by
    have ih := qt_mon r d (e :: cs) (by simp) h
    show mon (ev r (d :: e :: cs) :: ev r (e :: cs) :: qt r (e :: cs))
    exact ih
theorem ev_qt (y r : Nat) : ∀ cs : List Nat, ev y cs ^^^ ev r cs = cm (y ^^^ r) (ev y (qt r cs))
  | [] => by show 0 ^^^ 0 = cm _ 0; rw [cm_zero_right]; rfl
  | [c] => by
    show (c ^^^ cm y 0) ^^^ (c ^^^ cm r 0) = cm _ 0
    simp only [cm_zero_right, Nat.xor_zero, Nat.xor_self]
  | c :: d :: cs => by
    have ih := ev_qt y r (d :: cs)
    show (c ^^^ cm y (ev y (d :: cs))) ^^^ (c ^^^ cm r (ev r (d :: cs))) = cm (y ^^^ r) (ev r (d :: cs) ^^^ cm y (ev y (qt r (d :: cs))))
    rw [cm_xor_right, cm_left_comm, ← ih, cm_xor_right, cm_xor_left]
    generalize cm y (ev y (d :: cs)) = p; generalize cm r (ev r (d :: cs)) = q; generalize cm y (ev r (d :: cs)) = s
    apply Nat.eq_of_testBit_eq; intro i
    simp only [Nat.testBit_xor]
    cases c.testBit i <;> cases p.testBit i <;> cases q.testBit i <;> cases s.testBit i <;> rfl
theorem Irr.roots {p : Nat} (h : Irr p) : ∀ (n : Nat) (cs : List Nat), cs.length = n + 1 → mon cs → ∀ rs : List Nat, rs.Pairwise (fun a b => ¬ cg p a b) → (∀ r ∈ rs, dv p (ev r cs)) → rs.length ≤ n
  | _, _, _, _, [], _, _ => Nat.zero_le _
  | 0, [c], _, hm, r :: rs, _, hr => by
    have := hr r List.mem_cons_self
    obtain rfl : c = 1 := hm
    rw [show ev r [1] = 1 from by show 1 ^^^ cm r 0 = 1; rw [cm_zero_right]; rfl] at this
    exact absurd this h.not_one
  | n + 1, [c], hl, _, _ :: _, _, _ => by simp at hl
  | 0, c :: d :: cs, hl, _, _ :: _, _, _ => by simp at hl
  | n + 1, c :: d :: cs, hl, hm, r :: rs, hp, hr => by
    rw [List.pairwise_cons] at hp
    refine Nat.succ_le_succ (h.roots n (qt r (c :: d :: cs)) (by rw [qt_len]; simp at hl ⊢; omega) (qt_mon r _ _ (by simp) hm) rs hp.2 fun x hx => ?_)
    have e := ev_qt x r (c :: d :: cs)
    have d1 := dv_xor (hr x (List.mem_cons_of_mem _ hx)) (hr r List.mem_cons_self)
    rw [e] at d1
    refine (h.prime d1).resolve_left fun d2 => hp.1 x hx (cg_symm d2)
theorem ev_pow (y m : Nat) : ev y (List.replicate m 0 ++ [1]) = cpw y m := by
  induction m with
  | zero => show 1 ^^^ cm y 0 = 1; rw [cm_zero_right]; rfl
  | succ m ih =>
    rw [List.replicate_succ, List.cons_append]
    show 0 ^^^ cm y (ev y (List.replicate m 0 ++ [1])) = cm (cpw y m) y
    rw [ih, Nat.zero_xor, cm_comm]
theorem mon_pow : ∀ m, mon (List.replicate m 0 ++ [1])
  | 0 => rfl
  | 1 => rfl
  | m + 2 => mon_pow (m + 1)
theorem Irr.least {p i : Nat} (h : Irr p) (hi : i ≠ 0) (hb : cg p (cpw 2 (2 ^ i)) 2) : bl p - 1 ≤ i := by
  have h2 : 2 ≤ 2 ^ i := by
    obtain ⟨j, rfl⟩ := Nat.exists_eq_succ_of_ne_zero hi
    rw [Nat.pow_succ]; have := Nat.two_pow_pos j; omega
  have r := h.roots (2 ^ i) (0 :: 1 :: (List.replicate (2 ^ i - 2) 0 ++ [1])) (by simp; omega) (by
    have := mon_pow (2 ^ i - 2)
    cases e : List.replicate (2 ^ i - 2) 0 ++ [1] with
    | nil => simp at e
    | cons c cs => rw [e] at this; exact this) (List.range (2 ^ (bl p - 1))) (by
      refine List.Pairwise.imp_of_mem ?_ (List.nodup_iff_pairwise_ne.1 List.nodup_range)
      intro x y hx hy hne e
      have hp := h.1
      have b : ∀ z, z ∈ List.range (2 ^ (bl p - 1)) → bl z < bl p := fun z hz => by
        have := List.mem_range.1 hz
        have : bl z ≤ bl p - 1 := bl_lt.2 this
        omega
      exact hne (cg_small e (b x hx) (b y hy))) (fun x _ => by
        show dv p (0 ^^^ cm x (1 ^^^ cm x (ev x (List.replicate (2 ^ i - 2) 0 ++ [1]))))
        rw [ev_pow, Nat.zero_xor, cm_xor_right, cm_one_right]
        have e : cm x (cm x (cpw x (2 ^ i - 2))) = cpw x (2 ^ i) := by
          rw [cm_comm x (cpw _ _), cm_comm]
          show cpw x (2 ^ i - 2 + 1 + 1) = _
          congr 1; omega
        rw [e]
        exact cg_symm (frob_all hb x))
  rw [List.length_range] at r
  exact (Nat.pow_le_pow_iff_right (by omega)).1 r
theorem part_of {p : Nat} (hp : 2 ≤ bl p) (h : ¬ Irr p) : ∃ q, Irr q ∧ dv q p ∧ 2 * (bl q - 1) ≤ bl p - 1 := by
  have hp0 : p ≠ 0 := by rintro rfl; rw [bl_zero] at hp; omega
  have ex : ∃ q, q ≠ 1 ∧ q ≠ p ∧ dv q p := by
    refine Classical.byContradiction fun hc => h ⟨hp, fun q hq => ?_⟩
    refine Classical.byContradiction fun h' => hc ⟨q, fun e => h' (.inl e), fun e => h' (.inr e), hq⟩
  have least : ∃ q, (q ≠ 1 ∧ q ≠ p ∧ dv q p) ∧ ∀ q', bl q' < bl q → ¬ (q' ≠ 1 ∧ q' ≠ p ∧ dv q' p) := by
    obtain ⟨q, hq⟩ := ex
    obtain ⟨n, hn⟩ : ∃ n, bl q = n := ⟨_, rfl⟩
    induction n using Nat.strongRecOn generalizing q with
    | _ n ih =>
      rcases Classical.em (∃ q', bl q' < bl q ∧ (q' ≠ 1 ∧ q' ≠ p ∧ dv q' p)) with hc | hc
      · obtain ⟨q', h1, h2⟩ := hc; exact ih (bl q') (by omega) q' h2 rfl
      · exact ⟨q, hq, fun q' h1 h2 => hc ⟨q', h1, h2⟩⟩
  obtain ⟨q, ⟨h1, h2, h3⟩, h4⟩ := least
  have hq0 : q ≠ 0 := by rintro rfl; exact hp0 (dv_of_zero h3)
  have hb : ∀ z, z ≠ 0 → z ≠ 1 → 2 ≤ bl z := fun z z0 z1 => by
    rcases Nat.lt_or_ge (bl z) 2 with h | h
    · have : z < 2 ^ 1 := bl_lt.1 (by omega)
      omega
    · exact h
  have hb0 : ∀ z, z ≠ 0 → 0 < bl z := fun z hz => bl_pos.2 hz
  refine ⟨q, ⟨hb q hq0 h1, fun d hd => ?_⟩, h3, ?_⟩
  · rcases Decidable.em (d = 1) with e1 | e1
    · exact .inl e1
    refine .inr (Classical.byContradiction fun e => ?_)
    obtain ⟨k, hk⟩ := hd
    have hd0 : d ≠ 0 := by rintro rfl; rw [cm_zero_right] at hk; exact hq0 hk
    have hk0 : k ≠ 0 := by rintro rfl; exact hq0 hk
    have hk1 : k ≠ 1 := by rintro rfl; rw [cm_one_left] at hk; exact e hk.symm
    have hbl := bl_cm hk0 hd0
    rw [← hk] at hbl
    have := hb k hk0 hk1
    refine h4 d (by omega) ⟨e1, ?_, dv_trans ⟨k, hk⟩ h3⟩
    rintro rfl
    have := dv_bl h3 hp0
    omega
  · obtain ⟨k, hk⟩ := h3
    have hk0 : k ≠ 0 := by rintro rfl; exact hp0 hk
    have hk1 : k ≠ 1 := by rintro rfl; rw [cm_one_left] at hk; exact h2 hk.symm
    have hbl := bl_cm hk0 hq0
    rw [← hk] at hbl
    have hq2 := hb q hq0 h1
    have hle : bl q ≤ bl k := by
      rcases Nat.lt_or_ge (bl k) (bl q) with h' | h'
      · refine absurd ⟨hk1, ?_, ⟨q, by rw [cm_comm]; exact hk⟩⟩ (h4 k h')
        rintro rfl
        omega
      · exact h'
    omega
theorem sqn_cpw (a : Nat) {p : Nat} (hp : p ≠ 0) (i : Nat) : sqn a p i = rm (cpw a (2 ^ i)) p := by rw [sqn_pwr a hp, pwr_cpw a hp]
end Go.Proofs.YteomkgcepiecjaaGreat.I
/- Words and the number that they tell. Plain Lean. -/
namespace Go.Proofs.YteomkgcepiecjaaGreat.I
def pv : List Nat → Nat
  | [] => 0
  | x :: xs => x + 18446744073709551616 * pv xs
def wd (n : Nat) : List Nat := if h : n = 0 then [] else n % 18446744073709551616 :: wd (n / 18446744073709551616)
termination_by n
decreasing_by omega
theorem wd_zero : wd 0 = [] := by rw [wd]; simp
theorem wd_pos {n : Nat} (h : n ≠ 0) : wd n = n % 18446744073709551616 :: wd (n / 18446744073709551616) := by rw [wd]; simp [h]
theorem pv_wd (n : Nat) : pv (wd n) = n := by
  induction n using Nat.strongRecOn with
  | _ n ih =>
    by_cases h : n = 0
    · subst h; rw [wd_zero]; rfl
    · rw [wd_pos h, pv, ih _ (by omega)]; omega
theorem wd_lt (n : Nat) : ∀ x ∈ wd n, x < 18446744073709551616 := by
  induction n using Nat.strongRecOn with
  | _ n ih =>
    by_cases h : n = 0
    · subst h; rw [wd_zero]; simp
    · rw [wd_pos h]
      intro x hx
      rcases List.mem_cons.1 hx with rfl | hx
      · omega
      · exact ih _ (by omega) x hx
def trim (xs : List Nat) : List Nat := (xs.reverse.dropWhile (· == 0)).reverse
theorem trim_nil : trim [] = [] := rfl
theorem trim_cons (x : Nat) (xs : List Nat) : trim (x :: xs) = if trim xs = [] ∧ x = 0 then [] else x :: trim xs := by
  unfold trim
  rw [List.reverse_cons, List.dropWhile_append]
  by_cases h : xs.reverse.dropWhile (· == 0) = []
  · simp only [h, List.isEmpty_nil, if_true, List.reverse_nil, true_and]
    by_cases hx : x = 0
    · simp [hx]
    · simp [hx]
  · have : (xs.reverse.dropWhile (· == 0)).isEmpty = false := by simpa using h
    simp [h, this]
theorem pv_zero {xs : List Nat} : pv xs = 0 ↔ trim xs = [] := by
  induction xs with
  | nil => simp [pv, trim_nil]
  | cons x xs ih =>
    rw [trim_cons, pv]
    by_cases h : trim xs = [] ∧ x = 0
    · simp [h, ih.2 h.1]
    · simp only [h, if_false]
      simp only [reduceCtorEq, iff_false]
      intro e
      exact h ⟨ih.1 (by omega), by omega⟩
theorem trim_wd {xs : List Nat} (h : ∀ x ∈ xs, x < 18446744073709551616) : trim xs = wd (pv xs) := by
  induction xs with
  | nil => rw [pv, wd_zero, trim_nil]
  | cons x xs ih =>
    have hx := h x (by simp)
    have ih := ih fun y hy => h y (by simp [hy])
    rw [trim_cons, pv]
    by_cases h0 : trim xs = [] ∧ x = 0
    · simp only [h0, and_self, if_true]
      rw [pv_zero.2 h0.1]; rw [Nat.mul_zero, Nat.add_zero, wd_zero]
    · simp only [h0, if_false]
      have hne : x + 18446744073709551616 * pv xs ≠ 0 := by
        intro e
        exact h0 ⟨pv_zero.1 (by omega), by omega⟩
      rw [wd_pos hne, ih]
      congr 1
      · omega
      · congr 1; omega
theorem pv_lt {xs : List Nat} (h : ∀ x ∈ xs, x < 18446744073709551616) : pv xs < 2 ^ (64 * xs.length) := by
  induction xs with
  | nil => simp [pv]
  | cons x xs ih =>
    have hx := h x (by simp)
    have ih := ih fun y hy => h y (by simp [hy])
    rw [pv, List.length_cons, Nat.mul_succ, Nat.pow_add, show (2 : Nat) ^ 64 = 18446744073709551616 by rfl]
    omega
def wdAt (n i : Nat) : Nat := n / 2 ^ (64 * i) % 18446744073709551616
theorem wdAt_zero (n : Nat) : wdAt n 0 = n % 18446744073709551616 := by simp [wdAt]
theorem wdAt_succ (n i : Nat) : wdAt n (i + 1) = wdAt (n / 18446744073709551616) i := by
  unfold wdAt
  rw [Nat.div_div_eq_div_mul, Nat.mul_succ, Nat.pow_add, Nat.mul_comm (2 ^ (64 * i)), show (2 : Nat) ^ 64 = 18446744073709551616 by rfl]
theorem wdAt_lt (n i : Nat) : wdAt n i < 18446744073709551616 := Nat.mod_lt _ (by omega)
theorem wdAt_zero_left (i : Nat) : wdAt 0 i = 0 := by simp [wdAt]
theorem wdAt_eq (n i : Nat) : wdAt n i = (n >>> (64 * i)) % 2 ^ 64 := by unfold wdAt; rw [Nat.shiftRight_eq_div_pow]
theorem wdAt_xor (a b i : Nat) : wdAt (a ^^^ b) i = wdAt a i ^^^ wdAt b i := by
  rw [wdAt_eq, wdAt_eq, wdAt_eq, Nat.shiftRight_xor_distrib, Nat.xor_mod_two_pow]
theorem testBit_wdAt (n i k : Nat) : (wdAt n i).testBit k = (decide (k < 64) && n.testBit (64 * i + k)) := by
  rw [wdAt_eq, Nat.testBit_mod_two_pow, Nat.testBit_shiftRight]
theorem getD_pv {xs : List Nat} (h : ∀ x ∈ xs, x < 18446744073709551616) (i : Nat) : xs.getD i 0 = wdAt (pv xs) i := by
  induction xs generalizing i with
  | nil => simp [pv, wdAt_zero_left]
  | cons x xs ih =>
    have hx := h x (by simp)
    cases i with
    | zero => rw [wdAt_zero, pv]; simp; omega
    | succ i =>
      rw [wdAt_succ, pv, List.getD_cons_succ, ih (fun y hy => h y (by simp [hy]))]
      congr 1; omega
theorem pv_of {l : List Nat} {n : Nat} (hn : n < 2 ^ (64 * l.length)) (h : ∀ i, i < l.length → l.getD i 0 = wdAt n i) : pv l = n := by
  induction l generalizing n with
  | nil => simp at hn; simp [pv, hn]
  | cons x l ih =>
    have h0 := h 0 (by simp)
    rw [wdAt_zero] at h0
    simp at h0
    rw [List.length_cons, Nat.mul_succ, Nat.pow_add, show (2 : Nat) ^ 64 = 18446744073709551616 by rfl] at hn
    have := ih (n := n / 18446744073709551616) (Nat.div_lt_of_lt_mul (by rwa [Nat.mul_comm] at hn)) fun i hi => by
      rw [← wdAt_succ]; exact h (i + 1) (by simpa using hi)
    rw [pv, this]; omega
theorem pv_map {n : Nat} {g : Nat → Nat} {m : Nat} (hn : m < 2 ^ (64 * n)) (h : ∀ i, i < n → g i = wdAt m i) : pv ((List.range n).map g) = m :=
  pv_of (by simpa using hn) fun i hi => by
    simp only [List.length_map, List.length_range] at hi
    simp only [List.getD_eq_getElem?_getD, List.getElem?_map, List.getElem?_range hi, Option.map_some, Option.getD_some]
    exact h i hi
theorem pv_append (xs ys : List Nat) : pv (xs ++ ys) = pv xs + 2 ^ (64 * xs.length) * pv ys := by
  induction xs with
  | nil => simp [pv]
  | cons x xs ih =>
    rw [List.cons_append, pv, pv, ih, List.length_cons, Nat.mul_succ, Nat.pow_add, show (2 : Nat) ^ 64 = 18446744073709551616 by rfl, Nat.mul_add]
    rw [Nat.mul_comm (2 ^ (64 * xs.length)) 18446744073709551616, Nat.mul_assoc, Nat.add_assoc]
theorem bl_pv {xs : List Nat} (h : ∀ x ∈ xs, x < 18446744073709551616) : bl (pv xs) ≤ 64 * xs.length := bl_lt.2 (pv_lt h)
theorem bl_div (n : Nat) : bl (n / 18446744073709551616) = bl n - 64 := by
  have key : ∀ k, bl (n / 18446744073709551616) ≤ k ↔ bl n - 64 ≤ k := by
    intro k
    rw [bl_lt, show bl n - 64 ≤ k ↔ bl n ≤ k + 64 by omega, bl_lt, Nat.pow_add, show (2 : Nat) ^ 64 = 18446744073709551616 by rfl, Nat.div_lt_iff_lt_mul (by omega)]
  have h1 := (key _).1 (Nat.le_refl _)
  have h2 := (key _).2 (Nat.le_refl _)
  omega
theorem wd_len (n : Nat) : (wd n).length = (bl n + 63) / 64 := by
  induction n using Nat.strongRecOn with
  | _ n ih =>
    by_cases h : n = 0
    · subst h; rw [wd_zero]; rfl
    · have := bl_pos.2 h
      rw [wd_pos h, List.length_cons, ih _ (by omega), bl_div]
      by_cases h2 : bl n ≤ 64
      · rw [show bl n - 64 = 0 by omega]; omega
      · omega
theorem wd_getD (n i : Nat) : (wd n).getD i 0 = wdAt n i := by
  rw [getD_pv (wd_lt n), pv_wd]
theorem bl_last {n : Nat} (h : n ≠ 0) : bl n = 64 * ((wd n).length - 1) + bl (wdAt n ((wd n).length - 1)) ∧ 0 < (wd n).length := by
  have hb := bl_pos.2 h
  have hl := wd_len n
  refine ⟨?_, by omega⟩
  have key : bl (n / 2 ^ (64 * ((wd n).length - 1))) = bl n - 64 * ((wd n).length - 1) := by
    have key : ∀ m k, bl (n / 2 ^ m) ≤ k ↔ bl n - m ≤ k := by
      intro m k
      rw [bl_lt, show bl n - m ≤ k ↔ bl n ≤ k + m by omega, bl_lt, Nat.pow_add, Nat.div_lt_iff_lt_mul (Nat.pow_pos (by omega))]
    have h1 := (key (64 * ((wd n).length - 1)) _).1 (Nat.le_refl _)
    have h2 := (key (64 * ((wd n).length - 1)) _).2 (Nat.le_refl _)
    omega
  have e : wdAt n ((wd n).length - 1) = n / 2 ^ (64 * ((wd n).length - 1)) := by
    unfold wdAt
    apply Nat.mod_eq_of_lt
    have := lt_bl (n / 2 ^ (64 * ((wd n).length - 1)))
    rw [key] at this
    refine Nat.lt_of_lt_of_le this ?_
    have : (2 : Nat) ^ (bl n - 64 * ((wd n).length - 1)) ≤ 2 ^ 64 := Nat.pow_le_pow_right (by omega) (by omega)
    simpa using this
  rw [e, key]; omega
theorem wd_eq_nil {n : Nat} : wd n = [] ↔ n = 0 := by
  constructor
  · intro h; rw [← pv_wd n, h]; rfl
  · rintro rfl; exact wd_zero
theorem wd_inj {a b : Nat} : wd a = wd b ↔ a = b := by
  constructor
  · intro h; rw [← pv_wd a, h, pv_wd]
  · rintro rfl; rfl
end Go.Proofs.YteomkgcepiecjaaGreat.I
/- Words of sums and products. Plain Lean. -/
namespace Go.Proofs.YteomkgcepiecjaaGreat.I
theorem add_shl_xor {a b m : Nat} (h : a < 2 ^ m) : a + 2 ^ m * b = a ^^^ b <<< m := by
  apply Nat.eq_of_testBit_eq
  intro j
  rw [Nat.add_comm, Nat.testBit_two_pow_mul_add b h, Nat.testBit_xor, Nat.testBit_shiftLeft]
  by_cases hj : j < m
  · have : ¬ m ≤ j := by omega
    simp [hj, this]
  · have h2 : m ≤ j := by omega
    have : a.testBit j = false := Nat.testBit_lt_two_pow (Nat.lt_of_lt_of_le h (Nat.pow_le_pow_right (by omega) (by omega)))
    simp [hj, this, h2]
theorem take_lt {xs : List Nat} (h : ∀ x ∈ xs, x < 18446744073709551616) (k : Nat) : ∀ x ∈ xs.take k, x < 18446744073709551616 := fun x hx => h x (List.mem_of_mem_take hx)
theorem pv_take_succ {xs : List Nat} (h : ∀ x ∈ xs, x < 18446744073709551616) {k : Nat} (hk : k < xs.length) : pv (xs.take (k + 1)) = pv (xs.take k) ^^^ (xs.getD k 0) <<< (64 * k) := by
  have e : xs.take (k + 1) = xs.take k ++ [xs.getD k 0] := by
    rw [List.take_succ_eq_append_getElem hk]
    simp [List.getD, hk]
  have hl : (xs.take k).length = k := by simp; omega
  rw [e, pv_append, hl, pv, pv, Nat.mul_zero, Nat.add_zero, add_shl_xor]
  have := pv_lt (take_lt h k)
  rwa [hl] at this
def wds (n m : Nat) : List Nat := (List.range n).map (wdAt m)
theorem wds_len (n m : Nat) : (wds n m).length = n := by simp [wds]
theorem wds_getD (n m i : Nat) (h : i < n) : (wds n m).getD i 0 = wdAt m i := by simp [wds, List.getD, h]
theorem wds_take (n m : Nat) : (wds n m).take n = wds n m := by rw [List.take_of_length_le]; simp [wds]
theorem wds_zero (n : Nat) : List.replicate n 0 = wds n 0 := by
  apply List.ext_getElem
  · simp [wds]
  · intro i h1 h2; simp [wds, wdAt_zero_left]
theorem pv_wds {n m : Nat} (h : bl m ≤ 64 * n) : pv (wds n m) = m := pv_map (bl_lt.1 h) fun _ _ => rfl
theorem wdAt_shl_words (w i j : Nat) (hw : w < 18446744073709551616) : wdAt (w <<< (64 * j)) i = if i = j then w else 0 := by
  apply Nat.eq_of_testBit_eq
  intro k
  rw [testBit_wdAt, Nat.testBit_shiftLeft]
  by_cases hij : i = j
  · subst hij
    by_cases hk : k < 64
    · simp [hk]
    · have : w.testBit k = false := Nat.testBit_lt_two_pow (Nat.lt_of_lt_of_le hw (show 2 ^ 64 ≤ 2 ^ k from Nat.pow_le_pow_right (by omega) (by omega)))
      simp [hk, this]
  · simp only [hij, if_false, Nat.zero_testBit, Bool.and_eq_false_iff, decide_eq_false_iff_not]
    rcases Nat.lt_or_gt_of_ne hij with h | h
    · by_cases hk : k < 64
      · right; left; omega
      · left; exact hk
    · by_cases hk : k < 64
      · right; right
        exact Nat.testBit_lt_two_pow (Nat.lt_of_lt_of_le hw (show 2 ^ 64 ≤ _ from Nat.pow_le_pow_right (by omega) (by omega)))
      · left; exact hk
theorem wds_set (n m j w : Nat) (_ : j < n) (hw : w < 18446744073709551616) : (wds n m).set j (wdAt m j ^^^ w) = wds n (m ^^^ w <<< (64 * j)) := by
  apply List.ext_getElem
  · simp [wds]
  · intro i h1 h2
    simp only [wds, List.length_map, List.length_range, List.length_set] at h1 h2
    simp only [wds, List.getElem_set, List.getElem_map, List.getElem_range, wdAt_xor, wdAt_shl_words _ _ _ hw]
    by_cases e : j = i
    · subst e; simp
    · have : ¬ i = j := fun x => e x.symm
      simp [e, this]
theorem wds_upd {n m j w : Nat} (hj : j < n) (hw : w < 18446744073709551616) : (wds n m).set j ((wds n m).getD j 0 ^^^ w) = wds n (m ^^^ w <<< (64 * j)) := by
  rw [wds_getD _ _ _ hj, wds_set _ _ _ _ hj hw]
theorem shr_and (b k : Nat) : b >>> k &&& 1 = if b.testBit k then 1 else 0 := by
  rw [Nat.and_one_is_mod, Nat.shiftRight_eq_div_pow, Nat.testBit_eq_decide_div_mod_eq]
  simp only [decide_eq_true_eq]
  split <;> omega
theorem mod_succ (b i : Nat) : b % 2 ^ (i + 1) = b % 2 ^ i ^^^ (if b.testBit i then 2 ^ i else 0) := by
  apply Nat.eq_of_testBit_eq
  intro j
  rw [Nat.testBit_xor, Nat.testBit_mod_two_pow, Nat.testBit_mod_two_pow]
  by_cases hb : b.testBit i = true
  · simp only [hb, if_true, Nat.testBit_two_pow]
    by_cases e : i = j
    · subst e; simp [hb]
    · have : (j < i + 1) ↔ (j < i) := by omega
      simp [e, this]
  · have hb' : b.testBit i = false := by simpa using hb
    simp only [hb', Bool.false_eq_true, if_false, Nat.zero_testBit, Bool.xor_false]
    by_cases e : i = j
    · subst e; simp [hb']
    · have : (j < i + 1) ↔ (j < i) := by omega
      simp [this]
theorem cm_mod_succ (a b i : Nat) : cm a (b % 2 ^ (i + 1)) = cm a (b % 2 ^ i) ^^^ (if b.testBit i then a <<< i else 0) := by
  rw [mod_succ, cm_xor_right]
  split
  · rw [cm_pow_right]
  · rw [cm_zero_right]
theorem hi_shl {a i : Nat} (ha : a < 18446744073709551616) (hi : i ≤ 64) : wdAt (a <<< i) 1 = a >>> (64 - i) := by
  have h1 : a <<< i / 2 ^ (64 * 1) = a >>> (64 - i) := by
    rw [Nat.shiftLeft_eq, Nat.shiftRight_eq_div_pow]
    have : (2 : Nat) ^ (64 * 1) = 2 ^ i * 2 ^ (64 - i) := by rw [← Nat.pow_add]; congr 1; omega
    rw [this, ← Nat.div_div_eq_div_mul, Nat.mul_div_cancel _ (Nat.pow_pos (by omega))]
  unfold wdAt
  rw [h1]
  apply Nat.mod_eq_of_lt
  exact Nat.lt_of_le_of_lt (by rw [Nat.shiftRight_eq_div_pow]; exact Nat.div_le_self _ _) ha
theorem lo_shl (a i : Nat) : wdAt (a <<< i) 0 = (a <<< i) % 18446744073709551616 := wdAt_zero _
theorem bl_cm_le (a b : Nat) : bl (cm a b) ≤ bl a + bl b := by
  by_cases ha : a = 0
  · subst ha; rw [cm_zero_left, bl_zero]; omega
  · by_cases hb : b = 0
    · subst hb; rw [cm_zero_right, bl_zero]; omega
    · have := bl_cm ha hb; omega
theorem two_words {n : Nat} (h : bl n ≤ 128) : n = wdAt n 0 ^^^ (wdAt n 1) <<< 64 := by
  have : n = pv (wds 2 n) := (pv_wds (by omega)).symm
  conv => lhs; rw [this]
  show pv [wdAt n 0, wdAt n 1] = _
  simp only [pv, Nat.mul_zero, Nat.add_zero]
  rw [show (18446744073709551616 : Nat) = 2 ^ 64 by rfl, add_shl_xor]
  exact wdAt_lt n 0
theorem wdAt_shl (m n i : Nat) : wdAt (m <<< n) i =
    ((if n / 64 ≤ i then wdAt m (i - n / 64) else 0) <<< (n % 64)) % 18446744073709551616 ||| (if n / 64 + 1 ≤ i then wdAt m (i - n / 64 - 1) else 0) >>> (64 - n % 64) := by
  apply Nat.eq_of_testBit_eq
  intro k
  rw [testBit_wdAt, Nat.testBit_shiftLeft, Nat.testBit_or, show (18446744073709551616 : Nat) = 2 ^ 64 by rfl, Nat.testBit_mod_two_pow, Nat.testBit_shiftLeft, Nat.testBit_shiftRight]
  by_cases hk : k < 64
  · simp only [hk, decide_true, Bool.true_and]
    by_cases h1 : n % 64 ≤ k
    · have e2 : (if n / 64 + 1 ≤ i then wdAt m (i - n / 64 - 1) else 0).testBit (64 - n % 64 + k) = false := by
        split
        · rw [testBit_wdAt]; simp; omega
        · simp
      rw [e2, Bool.or_false]
      by_cases h2 : n / 64 ≤ i
      · have : n ≤ 64 * i + k := by omega
        simp only [h1, h2, this, if_true, decide_true, Bool.true_and, testBit_wdAt]
        rw [show 64 * (i - n / 64) + (k - n % 64) = 64 * i + k - n by omega]
        have : k - n % 64 < 64 := by omega
        simp [this]
      · have : ¬ n ≤ 64 * i + k := by omega
        simp [h2, this]
    · simp only [h1, decide_false, Bool.false_and, Bool.false_or]
      by_cases h2 : n / 64 + 1 ≤ i
      · have : n ≤ 64 * i + k := by omega
        simp only [h2, this, if_true, decide_true, Bool.true_and, testBit_wdAt]
        rw [show 64 * (i - n / 64 - 1) + (64 - n % 64 + k) = 64 * i + k - n by omega]
        have : 64 - n % 64 + k < 64 := by omega
        simp [this]
      · have : ¬ n ≤ 64 * i + k := by omega
        simp [h2, this]
  · simp only [hk, decide_false, Bool.false_and, Bool.false_or]
    split
    · rw [testBit_wdAt]; simp; omega
    · simp
end Go.Proofs.YteomkgcepiecjaaGreat.I
/- Lists of parts and the number that they tell. Plain Lean. -/
namespace Go.Proofs.YteomkgcepiecjaaGreat.I
theorem wd_wds (n : Nat) : wd n = wds ((bl n + 63) / 64) n := by
  apply List.ext_getElem
  · rw [wd_len, wds_len]
  · intro i h1 h2
    have := wd_getD n i
    simp only [List.getD, List.getElem?_eq_getElem h1, Option.getD_some] at this
    rw [this]; simp [wds]
end Go.Proofs.YteomkgcepiecjaaGreat.I
/- The least rule of a row. Plain Lean. -/
namespace Go.Proofs.YteomkgcepiecjaaGreat.I
def px : Nat → (Nat → Bool) → Bool
  | 0, _ => false
  | n + 1, f => px n f ^^ f n
theorem px_front (n : Nat) (f : Nat → Bool) : px (n + 1) f = (f 0 ^^ px n fun k => f (k + 1)) := by
  induction n with
  | zero => simp [px]
  | succ n ih =>
    rw [px, ih]
    simp only [px]
    rw [Bool.xor_assoc]
theorem px_congr {n : Nat} {f g : Nat → Bool} (h : ∀ k, k < n → f k = g k) : px n f = px n g := by
  induction n with
  | zero => rfl
  | succ n ih => rw [px, px, ih fun k hk => h k (by omega), h n (by omega)]
theorem px_rev (n : Nat) (f : Nat → Bool) : px (n + 1) f = px (n + 1) fun k => f (n - k) := by
  induction n generalizing f with
  | zero => rfl
  | succ n ih =>
    rw [px, px_front (n + 1)]
    rw [ih f, Bool.xor_comm]
    congr 1
    refine px_congr fun k hk => ?_
    congr 1; omega
theorem px_more {m n : Nat} {f : Nat → Bool} (h : m ≤ n) (hf : ∀ k, m ≤ k → k < n → f k = false) : px n f = px m f := by
  induction n with
  | zero => rw [show m = 0 by omega]
  | succ n ih =>
    by_cases e : m = n + 1
    · rw [e]
    · rw [px, ih (by omega) fun k h1 h2 => hf k h1 (by omega), hf n (by omega) (by omega), Bool.xor_false]
theorem testBit_cm (a b j : Nat) : (cm a b).testBit j = px (j + 1) fun k => a.testBit k && b.testBit (j - k) := by
  induction j generalizing a with
  | zero =>
    rw [cm_step, Nat.testBit_xor, Nat.testBit_zero (2 * _)]
    simp only [px]
    rw [show (2 * cm (a / 2) b) % 2 = 0 by omega]
    simp only [Nat.zero_ne_one, decide_false, Bool.xor_false, Bool.false_xor, Nat.sub_self]
    rw [Nat.testBit_zero a]
    split <;> simp_all
  | succ j ih =>
    rw [cm_step, Nat.testBit_xor, tb2, ih, px_front (j + 1)]
    congr 1
    · rw [Nat.testBit_zero a]
      split <;> simp_all
    · refine px_congr fun k hk => ?_
      rw [Nat.testBit_succ a]
      congr 2; omega
theorem cm_low (a b k : Nat) : (cm a b) % 2 ^ k = (cm a (b % 2 ^ k)) % 2 ^ k := by
  apply Nat.eq_of_testBit_eq
  intro i
  rw [Nat.testBit_mod_two_pow, Nat.testBit_mod_two_pow]
  by_cases h : i < k
  · simp only [h, decide_true, Bool.true_and]
    rw [testBit_cm, testBit_cm]
    refine px_congr fun m hm => ?_
    rw [Nat.testBit_mod_two_pow]
    have : i - m < k := by omega
    simp [this]
  · simp [h]
def Ok' (s c n i : Nat) : Prop := c.testBit 0 = true ∧ bl c ≤ n + 1 ∧ ∀ j, n ≤ j → j < i → (cm c s).testBit j = false
theorem Ok'.less {s c n i i' : Nat} (h : Ok' s c n i) (hi : i' ≤ i) : Ok' s c n i' := ⟨h.1, h.2.1, fun j h1 h2 => h.2.2 j h1 (by omega)⟩
theorem massey {s c c' n n' i : Nat} (h : Ok' s c n i) (hn : n ≤ i) (h1 : (cm c s).testBit i = true) (h' : Ok' s c' n' (i + 1)) : i + 1 ≤ n + n' := by
  rcases Nat.lt_or_ge i (n + n') with g | g
  · exact g
  exfalso
  have z : ∀ a x m k : Nat, bl a ≤ k + 1 → x < 2 ^ m → m + k ≤ i → (cm a x).testBit i = false := fun a x m k ha hx hm => by
    by_cases h0 : x = 0
    · subst h0; rw [cm_zero_right]; simp
    · by_cases ha0 : a = 0
      · subst ha0; rw [cm_zero_left]; simp
      · have := bl_cm ha0 h0
        have := bl_lt.2 hx
        exact testBit_bl (by omega)
  have low : ∀ a b : Nat, (cm a b).testBit i = (cm a (b % 2 ^ (i + 1))).testBit i := fun a b => by
    have := congrArg (fun x => Nat.testBit x i) (cm_low a b (i + 1))
    simpa [Nat.testBit_mod_two_pow] using this
  have e1 : (cm c s) % 2 ^ (i + 1) = (cm c s) % 2 ^ n ^^^ 2 ^ i := by
    apply Nat.eq_of_testBit_eq
    intro j
    rw [Nat.testBit_xor, Nat.testBit_mod_two_pow, Nat.testBit_mod_two_pow, Nat.testBit_two_pow]
    by_cases hj : j < n
    · have : ¬ i = j := by omega
      have : j < i + 1 := by omega
      simp [*]
    · by_cases hj2 : j < i
      · have := h.2.2 j (by omega) hj2
        have : ¬ i = j := by omega
        simp [*]
      · by_cases hj3 : j = i
        · subst hj3; simp [hj, h1]
        · have : ¬ j < i + 1 := by omega
          have : ¬ i = j := by omega
          simp [*]
  have e2 : (cm c' s) % 2 ^ (i + 1) = (cm c' s) % 2 ^ n' := by
    apply Nat.eq_of_testBit_eq
    intro j
    rw [Nat.testBit_mod_two_pow, Nat.testBit_mod_two_pow]
    by_cases hj : j < n'
    · have : j < i + 1 := by omega
      simp [*]
    · by_cases hj2 : j < i + 1
      · have := h'.2.2 j (by omega) hj2
        simp [*]
      · simp [*]
  have t1 : (cm c' (cm c s)).testBit i = true := by
    rw [low, e1, cm_xor_right, Nat.testBit_xor, cm_pow_right, Nat.testBit_shiftLeft, Nat.sub_self, h'.1]
    rw [z c' _ n n' h'.2.1 (Nat.mod_lt _ (Nat.pow_pos (by omega))) (by omega)]
    simp
  have t2 : (cm c (cm c' s)).testBit i = false := by
    rw [low, e2]
    exact z c _ n' n h.2.1 (Nat.mod_lt _ (Nat.pow_pos (by omega))) (by omega)
  rw [cm_left_comm, t2] at t1
  cases t1
structure Bm where
  c : Nat
  b : Nat
  n : Nat
  ago : Nat
def bmStep (s i : Nat) (t : Bm) : Bm :=
  if (cm t.c s).testBit i = true then
    if 2 * t.n ≤ i then ⟨t.c ^^^ t.b <<< t.ago, t.c, i + 1 - t.n, 1⟩ else ⟨t.c ^^^ t.b <<< t.ago, t.b, t.n, t.ago + 1⟩
  else ⟨t.c, t.b, t.n, t.ago + 1⟩
def bm (s : Nat) : Nat → Bm
  | 0 => ⟨1, 1, 0, 1⟩
  | i + 1 => bmStep s i (bm s i)
structure BmOk (s i : Nat) (t : Bm) : Prop where
  ok : Ok' s t.c t.n i
  ni : t.n ≤ i
  ago : 1 ≤ t.ago
  b : (t.n = 0 ∧ t.c = 1 ∧ t.b = 1 ∧ t.ago = i + 1) ∨ ∃ m, t.ago ≤ i ∧ Ok' s t.b m (i - t.ago) ∧ (cm t.b s).testBit (i - t.ago) = true ∧ t.n + m = i - t.ago + 1
  least : ∀ c' n', Ok' s c' n' i → t.n ≤ n'
  bb : bl t.b ≤ i + 1 ∧ t.ago ≤ i + 1
theorem bm_ok (s : Nat) : ∀ i, BmOk s i (bm s i)
  | 0 => ⟨⟨by show Nat.testBit 1 0 = true; rfl, Nat.le_refl _, fun j _ h => by omega⟩, Nat.le_refl _, Nat.le_refl _, .inl ⟨rfl, rfl, rfl, rfl⟩, fun _ _ _ => Nat.zero_le _, ⟨Nat.le_refl _, Nat.le_refl _⟩⟩
  | i + 1 => by
    have H := bm_ok s i
    show BmOk s (i + 1) (bmStep s i (bm s i))
    generalize bm s i = t at H
    obtain ⟨⟨c0, c1, c2⟩, hni, hago, hb, hleast, hbb⟩ := H
    unfold bmStep
    split
    · rename_i hw
      have new0 : (t.c ^^^ t.b <<< t.ago).testBit 0 = true := by
        rw [Nat.testBit_xor, Nat.testBit_shiftLeft, c0]
        have : ¬ t.ago ≤ 0 := by omega
        simp [this]
      have new1 : bl (t.c ^^^ t.b <<< t.ago) ≤ max t.n (i + 1 - t.n) + 1 := by
        have h1 := bl_xor_le t.c (t.b <<< t.ago)
        have h2 : bl (t.b <<< t.ago) ≤ i + 1 - t.n + 1 := by
          rcases hb with ⟨e1, e2, e3, e4⟩ | ⟨m, g1, g2, g3, g4⟩
          · rw [e3, e4, bl_shl (by omega)]; have : bl 1 = 1 := rfl; omega
          · have hb0 : t.b ≠ 0 := by intro e; have := g2.1; rw [e] at this; simp at this
            rw [bl_shl hb0]; have := g2.2.1; omega
        omega
      have new2 : ∀ j, max t.n (i + 1 - t.n) ≤ j → j < i + 1 → (cm (t.c ^^^ t.b <<< t.ago) s).testBit j = false := fun j h1 h2 => by
        rw [cm_xor_left, Nat.testBit_xor, cm_shl_left, Nat.testBit_shiftLeft]
        rcases hb with ⟨e1, e2, e3, e4⟩ | ⟨m, g1, g2, g3, g4⟩
        · exfalso; omega
        · by_cases hj : j = i
          · subst hj
            rw [hw, g3]
            have : t.ago ≤ j := g1
            simp [this]
          · rw [c2 j (by omega) (by omega)]
            by_cases ha : t.ago ≤ j
            · have := g2.2.2 (j - t.ago) (by omega) (by omega)
              simp [this]
            · simp [ha]
      split
      · rename_i hg
        have e : max t.n (i + 1 - t.n) = i + 1 - t.n := by omega
        rw [e] at new1 new2
        refine ⟨⟨new0, new1, new2⟩, by show i + 1 - t.n ≤ i + 1; omega, Nat.le_refl _, .inr ⟨t.n, by show 1 ≤ i + 1; omega, ?_, ?_, ?_⟩, fun c' n' h' => ?_, ?_⟩
        · show Ok' s t.c t.n (i + 1 - 1)
          exact ⟨c0, c1, fun j h1 h2 => c2 j h1 (by omega)⟩
        · show (cm t.c s).testBit (i + 1 - 1) = true
          exact hw
        · show i + 1 - t.n + t.n = i + 1 - 1 + 1
          omega
        · have := massey ⟨c0, c1, c2⟩ hni hw h'
          show i + 1 - t.n ≤ n'
          omega
        · exact ⟨by show bl t.c ≤ i + 1 + 1; omega, by show 1 ≤ i + 1 + 1; omega⟩
      · rename_i hg
        have e : max t.n (i + 1 - t.n) = t.n := by omega
        rw [e] at new1 new2
        refine ⟨⟨new0, new1, new2⟩, by show t.n ≤ i + 1; omega, by show 1 ≤ t.ago + 1; omega, ?_, fun c' n' h' => hleast c' n' (h'.less (by omega)), ?_⟩
        · rcases hb with ⟨e1, e2, e3, e4⟩ | ⟨m, g1, g2, g3, g4⟩
          · exfalso; omega
          · refine .inr ⟨m, by show t.ago + 1 ≤ i + 1; omega, ?_, ?_, ?_⟩
            · show Ok' s t.b m (i + 1 - (t.ago + 1))
              rw [show i + 1 - (t.ago + 1) = i - t.ago by omega]; exact g2
            · show (cm t.b s).testBit (i + 1 - (t.ago + 1)) = true
              rw [show i + 1 - (t.ago + 1) = i - t.ago by omega]; exact g3
            · show t.n + m = i + 1 - (t.ago + 1) + 1
              omega
        · exact ⟨by show bl t.b ≤ i + 1 + 1; omega, by show t.ago + 1 ≤ i + 1 + 1; omega⟩
    · rename_i hw
      have hw' : (cm t.c s).testBit i = false := by simpa using hw
      refine ⟨⟨c0, c1, fun j h1 h2 => ?_⟩, by show t.n ≤ i + 1; omega, by show 1 ≤ t.ago + 1; omega, ?_, fun c' n' h' => hleast c' n' (h'.less (by omega)), ?_⟩
      · by_cases hj : j = i
        · subst hj; exact hw'
        · exact c2 j h1 (by omega)
      · rcases hb with ⟨e1, e2, e3, e4⟩ | ⟨m, g1, g2, g3, g4⟩
        · exact .inl ⟨e1, e2, e3, by show t.ago + 1 = i + 1 + 1; omega⟩
        · refine .inr ⟨m, by show t.ago + 1 ≤ i + 1; omega, ?_, ?_, ?_⟩
          · show Ok' s t.b m (i + 1 - (t.ago + 1))
            rw [show i + 1 - (t.ago + 1) = i - t.ago by omega]; exact g2
          · show (cm t.b s).testBit (i + 1 - (t.ago + 1)) = true
            rw [show i + 1 - (t.ago + 1) = i - t.ago by omega]; exact g3
          · show t.n + m = i + 1 - (t.ago + 1) + 1
            omega
      · exact ⟨by show bl t.b ≤ i + 1 + 1; omega, by show t.ago + 1 ≤ i + 1 + 1; omega⟩
theorem massey_one {s c n N : Nat} (h : Ok' s c n N) (hl : ∀ c' n', Ok' s c' n' N → n ≤ n') {c' e M : Nat} (h' : Ok' s c' e M) (he : e < n) (hM : n + e < M + 1) (hMN : M ≤ N) : False := by
  have key : ∀ k, M ≤ k → k ≤ N → Ok' s c' e k := by
    intro k
    induction k with
    | zero => intro h1 _; exact h'.less (by omega)
    | succ k ih =>
      intro h1 h2
      by_cases hk : M = k + 1
      · rw [← hk]; exact h'
      · have hk' := ih (by omega) (by omega)
        refine ⟨hk'.1, hk'.2.1, fun j j1 j2 => ?_⟩
        by_cases hj : j = k
        · subst hj
          cases hb : (cm c' s).testBit j with
          | false => rfl
          | true =>
            have := massey hk' (by omega) hb (h.less (show j + 1 ≤ N by omega))
            omega
        · exact hk'.2.2 j j1 (by omega)
  have := hl c' e (key N hMN (Nat.le_refl _))
  omega
end Go.Proofs.YteomkgcepiecjaaGreat.I
/- Rules of a row. Plain Lean. -/
namespace Go.Proofs.YteomkgcepiecjaaGreat.I
def ofB (f : Nat → Bool) : Nat → Nat
  | 0 => 0
  | n + 1 => ofB f n ^^^ (if f n = true then 2 ^ n else 0)
theorem testBit_ofB (f : Nat → Bool) (n k : Nat) : (ofB f n).testBit k = (decide (k < n) && f k) := by
  induction n with
  | zero => simp [ofB]
  | succ n ih =>
    rw [ofB, Nat.testBit_xor, ih]
    by_cases e : k = n
    · subst e
      cases hf : f k
      · simp
      · simp
    · have h1 : (k < n + 1) ↔ (k < n) := by omega
      have h2 : ¬ n = k := fun h => e h.symm
      simp only [h1]
      split
      · rw [Nat.testBit_two_pow]; simp [h2]
      · simp
theorem bl_le_of {x n : Nat} (h : ∀ k, n ≤ k → x.testBit k = false) : bl x ≤ n := by
  rcases Nat.lt_or_ge n (bl x) with g | g
  · have h0 : x ≠ 0 := bl_pos.1 (by omega)
    have := bl_top h0
    rw [h _ (by omega)] at this; cases this
  · exact g
def rv (l : List Bool) : Nat := ofB (fun k => l.getD k false) l.length
theorem testBit_rv (l : List Bool) (k : Nat) : (rv l).testBit k = l.getD k false := by
  unfold rv; rw [testBit_ofB]
  by_cases h : k < l.length
  · simp [h]
  · simp [h, List.getD]
def revP (d p : Nat) : Nat := ofB (fun k => p.testBit (d - k)) (d + 1)
theorem testBit_revP (d p k : Nat) : (revP d p).testBit k = (decide (k < d + 1) && p.testBit (d - k)) := testBit_ofB _ _ _
theorem revP_revP {d p : Nat} (h : bl p ≤ d + 1) : revP d (revP d p) = p := by
  apply Nat.eq_of_testBit_eq
  intro k
  rw [testBit_revP, testBit_revP]
  by_cases hk : k < d + 1
  · have : d - k < d + 1 := by omega
    rw [show d - (d - k) = k by omega]; simp [hk, this]
  · rw [testBit_bl (show bl p ≤ k by omega)]; simp [hk]
theorem bl_revP (d p : Nat) : bl (revP d p) ≤ d + 1 := bl_le_of fun k hk => by
  rw [testBit_revP]
  have : ¬ k < d + 1 := by omega
  simp [this]
def od (p : Nat) (l : List Bool) (i d : Nat) : Bool := px (d + 1) fun k => p.testBit k && l.getD (i + k) false
theorem cm_revP (p : Nat) (l : List Bool) (i d : Nat) : (cm (revP d p) (rv l)).testBit (i + d) = od p l i d := by
  rw [testBit_cm, px_more (m := d + 1) (by omega) (fun k h1 h2 => by
    rw [testBit_revP]; have : ¬ k < d + 1 := by omega
    simp [this]), px_rev]
  refine px_congr fun k hk => ?_
  rw [testBit_revP, testBit_rv]
  have h1 : d - k < d + 1 := by omega
  rw [show d - (d - k) = k by omega, show i + d - (d - k) = i + k by omega]
  simp [h1]
def Ru (l : List Bool) (p : Nat) : Prop := p ≠ 0 ∧ ∀ i, i + (bl p - 1) < l.length → od p l i (bl p - 1) = false
theorem Ru.ok {l : List Bool} {p : Nat} (h : Ru l p) : Ok' (rv l) (revP (bl p - 1) p) (bl p - 1) l.length := by
  refine ⟨?_, bl_revP _ _, fun j h1 h2 => ?_⟩
  · rw [testBit_revP]; simpa using bl_top h.1
  · have := cm_revP p l (j - (bl p - 1)) (bl p - 1)
    rw [show j - (bl p - 1) + (bl p - 1) = j by omega] at this
    rw [this]; exact h.2 _ (by omega)
theorem ru_of {l : List Bool} {c n : Nat} (h : Ok' (rv l) c n l.length) : Ru l (revP n c) ∧ bl (revP n c) = n + 1 := by
  have hb : bl (revP n c) = n + 1 := by
    have h1 := bl_revP n c
    have h2 : (revP n c).testBit n = true := by rw [testBit_revP]; simpa using h.1
    have := bl_of_testBit h2
    omega
  refine ⟨⟨bl_pos.1 (by omega), fun i hi => ?_⟩, hb⟩
  rw [hb] at hi ⊢
  rw [Nat.add_sub_cancel] at hi ⊢
  rw [← cm_revP, revP_revP h.2.1]
  exact h.2.2 _ (by omega) hi
def bmL (l : List Bool) : Bm := bm (rv l) l.length
def lc (l : List Bool) : Nat := (bmL l).n
def lst (l : List Bool) : Nat := revP (lc l) (bmL l).c
theorem lst_ru (l : List Bool) : Ru l (lst l) ∧ bl (lst l) = lc l + 1 := ru_of (bm_ok _ _).ok
theorem lc_le (l : List Bool) : lc l ≤ l.length := (bm_ok _ _).ni
theorem lc_least {l : List Bool} {p : Nat} (h : Ru l p) : lc l ≤ bl p - 1 := (bm_ok _ _).least _ _ h.ok
theorem testBit_rev (l : List Bool) {m : Nat} (h : m < l.length) : (rv l.reverse).testBit (l.length - 1 - m) = l.getD m false := by
  rw [testBit_rv]
  simp only [List.getD_eq_getElem?_getD]
  rw [List.getElem?_reverse (by omega)]
  congr 2; omega
theorem cm_rev (p : Nat) (l : List Bool) {i d : Nat} (hd : bl p ≤ d + 1) (hi : i + d < l.length) : (cm p (rv l.reverse)).testBit (l.length - 1 - i) = od p l i d := by
  rw [testBit_cm, px_more (m := d + 1) (by omega) (fun k h1 h2 => by rw [testBit_bl (x := p) (by omega)]; simp)]
  refine px_congr fun k hk => ?_
  rw [show l.length - 1 - i - k = l.length - 1 - (i + k) by omega, testBit_rev l (by omega)]
theorem ru_rev {l : List Bool} {p : Nat} : Ru l p ↔ p ≠ 0 ∧ ∀ j, bl p - 1 ≤ j → j < l.length → (cm p (rv l.reverse)).testBit j = false := by
  constructor
  · rintro ⟨h0, h⟩
    refine ⟨h0, fun j h1 h2 => ?_⟩
    have := cm_rev p l (i := l.length - 1 - j) (d := bl p - 1) (by omega) (by omega)
    rw [show l.length - 1 - (l.length - 1 - j) = j by omega] at this
    rw [this]; exact h _ (by omega)
  · rintro ⟨h0, h⟩
    refine ⟨h0, fun i hi => ?_⟩
    rw [← cm_rev p l (by omega) hi]
    exact h _ (by omega) (by omega)
theorem cm_gap {q x d N j : Nat} (h : ∀ k, d ≤ k → k < N → x.testBit k = false) (hq : q ≠ 0) (h1 : d + (bl q - 1) ≤ j) (h2 : j < N) : (cm q x).testBit j = false := by
  have e1 : (cm q x).testBit j = (cm q (x % 2 ^ (j + 1))).testBit j := by
    have := congrArg (fun x => Nat.testBit x j) (cm_low q x (j + 1))
    simpa [Nat.testBit_mod_two_pow] using this
  have e2 : x % 2 ^ (j + 1) = x % 2 ^ d := by
    apply Nat.eq_of_testBit_eq
    intro k
    rw [Nat.testBit_mod_two_pow, Nat.testBit_mod_two_pow]
    by_cases hk : k < d
    · have : k < j + 1 := by omega
      simp [*]
    · by_cases hk2 : k < j + 1
      · have := h k (by omega) (by omega)
        simp [*]
      · simp [*]
  rw [e1, e2]
  by_cases h0 : x % 2 ^ d = 0
  · rw [h0, cm_zero_right]; simp
  · have := bl_cm hq h0
    have := (bl_lt (k := d)).2 (Nat.mod_lt x (Nat.pow_pos (by omega)))
    have := bl_pos.2 hq
    exact testBit_bl (by omega)
theorem Ru.mul {l : List Bool} {p q : Nat} (h : Ru l p) (hq : q ≠ 0) : Ru l (cm p q) := by
  rw [ru_rev] at h ⊢
  have hb := bl_cm h.1 hq
  have := bl_pos.2 hq
  have := bl_pos.2 h.1
  refine ⟨fun e => (cm_eq_zero.1 e).elim h.1 hq, fun j h1 h2 => ?_⟩
  rw [cm_comm p q, cm_assoc]
  exact cm_gap h.2 hq (by omega) h2
theorem lst_dv {l : List Bool} {p : Nat} (h : Ru l p) (hl : 2 * (bl p - 1) ≤ l.length) : dv (lst l) p := by
  obtain ⟨h1, h2⟩ := lst_ru l
  have h3 := lc_least h
  have hq : lst l ≠ 0 := h1.1
  have hp := bl_pos.2 h.1
  rw [← rm_zero_iff hq]
  rcases Decidable.em (rm p (lst l) = 0) with e | e
  · exact e
  exfalso
  obtain ⟨r, hr⟩ : ∃ r, rm p (lst l) = r := ⟨_, rfl⟩
  obtain ⟨s1, s2⟩ := qr_spec p hq
  rw [hr] at e s1 s2
  have hr0 := bl_pos.2 e
  have z : ∀ j, bl p - 1 ≤ j → j < l.length → (cm r (rv l.reverse)).testBit j = false := fun j j1 j2 => by
    have e1 : r = p ^^^ cm (qd p (lst l)) (lst l) := by
      rw [Nat.xor_comm] at s1; exact xor_eq.1 s1.symm
    rw [e1, cm_xor_left, Nat.testBit_xor, (ru_rev.1 h).2 j j1 j2]
    by_cases hk : qd p (lst l) = 0
    · rw [hk, cm_zero_left, cm_zero_left]; simp
    · have hm := h1.mul hk
      rw [cm_comm] at hm
      have hbm := bl_cm hk hq
      have hle : bl (cm (qd p (lst l)) (lst l)) ≤ bl p := by
        have : cm (qd p (lst l)) (lst l) = p ^^^ r := by
          rw [e1, xor_cancel]
        rw [this]
        have := bl_xor_le p r; omega
      rw [(ru_rev.1 hm).2 j (by omega) j2]; rfl
  have ok : Ok' (rv l) (revP (bl r - 1) r) (bl r - 1) (l.length - (bl p - 1) + (bl r - 1)) := by
    refine ⟨by rw [testBit_revP]; simpa using bl_top e, bl_revP _ _, fun j j1 j2 => ?_⟩
    have := cm_revP r l (j - (bl r - 1)) (bl r - 1)
    rw [show j - (bl r - 1) + (bl r - 1) = j by omega] at this
    rw [this, ← cm_rev r l (by omega) (by omega)]
    exact z _ (by omega) (by omega)
  exact massey_one (bm_ok (rv l) l.length).ok (bm_ok _ _).least ok (by show bl r - 1 < lc l; omega) (by show lc l + _ < _; omega) (by omega)
end Go.Proofs.YteomkgcepiecjaaGreat.I
