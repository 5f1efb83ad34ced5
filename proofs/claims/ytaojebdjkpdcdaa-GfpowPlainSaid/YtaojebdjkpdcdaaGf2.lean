/- Polynomials over the field of two: quotients, rests, the greatest part of both. Plain Lean. -/
import Derived.Test.YtaojebdjkpdcdaaGf1
namespace Go.Proofs.Ytaojebdjkpdcdaa.I

/-- Quotient and rest, so many steps. -/
def qrF : Nat → Nat → Nat → Nat × Nat
  | 0, a, _ => (0, a)
  | k + 1, a, b => if bl a < bl b then (0, a) else
    let p := qrF k (a ^^^ b <<< (bl a - bl b)) b
    (2 ^ (bl a - bl b) ^^^ p.1, p.2)
def qr (a b : Nat) : Nat × Nat := qrF (bl a + 1) a b
/-- The quotient. -/
def qd (a b : Nat) : Nat := (qr a b).1
/-- The rest. -/
def rm (a b : Nat) : Nat := (qr a b).2

theorem red_lt {a b : Nat} (hb : b ≠ 0) (h : bl b ≤ bl a) : bl (a ^^^ b <<< (bl a - bl b)) < bl a := by
  refine bl_xor_lt ?_ (bl_pos.1 (by have := bl_pos.2 hb; omega))
  rw [bl_shl hb]; omega

theorem qrF_spec {b : Nat} (hb : b ≠ 0) : ∀ k a, bl a < k → a = cm (qrF k a b).1 b ^^^ (qrF k a b).2 ∧ bl (qrF k a b).2 < bl b
  | 0, a, h => by omega
  | k + 1, a, h => by
    unfold qrF
    split
    · rename_i hlt
      exact ⟨by simp [cm_zero_left], hlt⟩
    · rename_i hlt
      have hr := red_lt (a := a) hb (by omega)
      obtain ⟨h1, h2⟩ := qrF_spec hb k (a ^^^ b <<< (bl a - bl b)) (by omega)
      refine ⟨?_, h2⟩
      show a = cm (2 ^ (bl a - bl b) ^^^ _) b ^^^ _
      rw [cm_xor_left, cm_pow_left, Nat.xor_assoc, ← h1, xor_left_comm, Nat.xor_self, Nat.xor_zero]

theorem qr_spec (a : Nat) {b : Nat} (hb : b ≠ 0) : a = cm (qd a b) b ^^^ rm a b ∧ bl (rm a b) < bl b := qrF_spec hb _ a (by omega)

theorem qr_unique {b q r q' r' : Nat} (h : cm q b ^^^ r = cm q' b ^^^ r') (h1 : bl r < bl b) (h2 : bl r' < bl b) : q = q' ∧ r = r' := by
  have hb : b ≠ 0 := bl_pos.1 (by omega)
  have e : cm (q ^^^ q') b = r ^^^ r' := by
    rw [cm_xor_left, xor_eq.1 h]
    rw [show cm q' b ^^^ r' ^^^ r ^^^ cm q' b = cm q' b ^^^ cm q' b ^^^ (r ^^^ r') by ac_rfl, Nat.xor_self, Nat.zero_xor]
  have hq : q = q' := by
    rw [← xor_eq_zero]
    rcases Decidable.em (q ^^^ q' = 0) with h0 | h0
    · exact h0
    · have := bl_cm h0 hb
      have := bl_pos.2 h0
      have := bl_xor_le r r'
      rw [e] at *; omega
  subst hq
  rw [Nat.xor_self, cm_zero_left] at e
  exact ⟨rfl, xor_eq_zero.1 e.symm⟩

theorem qr_eq {a b q r : Nat} (h : a = cm q b ^^^ r) (hr : bl r < bl b) : qd a b = q ∧ rm a b = r := by
  have hb : b ≠ 0 := bl_pos.1 (by omega)
  obtain ⟨h1, h2⟩ := qr_spec a hb
  exact qr_unique (h1.symm.trans h) h2 hr

theorem qd_lt {a b : Nat} (h : bl a < bl b) : qd a b = 0 ∧ rm a b = a := qr_eq (by rw [cm_zero_left, Nat.zero_xor]) h
theorem bl_qd {a b : Nat} (hb : b ≠ 0) (h : bl b ≤ bl a) : bl (qd a b) + bl b = bl a + 1 := by
  obtain ⟨h1, h2⟩ := qr_spec a hb
  by_cases hq : qd a b = 0
  · rw [hq, cm_zero_left, Nat.zero_xor] at h1
    rw [← h1] at h2; omega
  · have h3 := bl_cm hq hb
    have h4 := bl_pos.2 hq
    have : bl (cm (qd a b) b ^^^ rm a b) = bl (cm (qd a b) b) := bl_xor_ne' (by omega)
    rw [← h1] at this; omega
theorem bl_qd_le (a : Nat) {b : Nat} (hb : b ≠ 0) : bl (qd a b) ≤ bl a := by
  have := bl_pos.2 hb
  rcases Nat.lt_or_ge (bl a) (bl b) with h | h
  · rw [(qd_lt h).1, bl_zero]; omega
  · have := bl_qd hb h; omega
theorem bl_rm_le (a : Nat) {b : Nat} (hb : b ≠ 0) : bl (rm a b) ≤ bl a := by
  rcases Nat.lt_or_ge (bl a) (bl b) with h | h
  · rw [(qd_lt h).2]; omega
  · have := (qr_spec a hb).2; omega

/-- It parts the other one. -/
def dv (a b : Nat) : Prop := ∃ k, b = cm k a

theorem dv_refl (a : Nat) : dv a a := ⟨1, (cm_one_left a).symm⟩
theorem dv_zero (a : Nat) : dv a 0 := ⟨0, rfl⟩
theorem dv_trans {a b c : Nat} (h : dv a b) (g : dv b c) : dv a c := by
  obtain ⟨k, rfl⟩ := h; obtain ⟨l, rfl⟩ := g
  exact ⟨cm l k, (cm_assoc _ _ _).symm⟩
theorem dv_xor {a b c : Nat} (h : dv a b) (g : dv a c) : dv a (b ^^^ c) := by
  obtain ⟨k, rfl⟩ := h; obtain ⟨l, rfl⟩ := g
  exact ⟨k ^^^ l, (cm_xor_left _ _ _).symm⟩
theorem dv_mul {a b : Nat} (h : dv a b) (c : Nat) : dv a (cm c b) := by
  obtain ⟨k, rfl⟩ := h
  exact ⟨cm c k, (cm_assoc _ _ _).symm⟩
theorem dv_mul_right {a b : Nat} (h : dv a b) (c : Nat) : dv a (cm b c) := by rw [cm_comm]; exact dv_mul h c
theorem dv_mul_self (a c : Nat) : dv a (cm c a) := ⟨c, rfl⟩
theorem dv_mul_self' (a c : Nat) : dv a (cm a c) := ⟨c, cm_comm _ _⟩
theorem dv_one (a : Nat) : dv 1 a := ⟨a, (cm_one_right a).symm⟩
theorem dv_of_zero {a : Nat} (h : dv 0 a) : a = 0 := by obtain ⟨k, rfl⟩ := h; exact cm_zero_right k
theorem dv_xor_iff {a b c : Nat} (h : dv a b) : dv a (b ^^^ c) ↔ dv a c :=
  ⟨fun g => by have := dv_xor h g; rwa [xor_cancel] at this, dv_xor h⟩
theorem dv_bl {a b : Nat} (h : dv a b) (hb : b ≠ 0) : bl a ≤ bl b := by
  obtain ⟨k, rfl⟩ := h
  have hk : k ≠ 0 := by rintro rfl; exact hb rfl
  have ha : a ≠ 0 := by rintro rfl; exact hb (cm_zero_right k)
  have := bl_cm hk ha
  have := bl_pos.2 hk
  omega
theorem dv_antisymm {a b : Nat} (h : dv a b) (g : dv b a) : a = b := by
  by_cases hb : b = 0
  · subst hb; exact dv_of_zero g
  by_cases ha : a = 0
  · subst ha; exact (dv_of_zero h).symm
  have h1 := dv_bl h hb
  have h2 := dv_bl g ha
  obtain ⟨k, rfl⟩ := h
  have hk : k ≠ 0 := by rintro rfl; exact hb rfl
  have h3 := bl_cm hk ha
  have hk1 : bl k = 1 := by omega
  have : k = 1 := by
    have := lt_bl k; rw [hk1] at this; omega
  rw [this, cm_one_left]
theorem dv_cancel {a b c : Nat} (hc : c ≠ 0) : dv (cm a c) (cm b c) ↔ dv a b := by
  constructor
  · rintro ⟨k, hk⟩
    rw [← cm_assoc] at hk
    exact ⟨k, cm_cancel hc hk⟩
  · rintro ⟨k, rfl⟩
    exact ⟨k, cm_assoc _ _ _⟩

theorem rm_zero_iff {a b : Nat} (hb : b ≠ 0) : rm a b = 0 ↔ dv b a := by
  obtain ⟨h1, h2⟩ := qr_spec a hb
  constructor
  · intro h; rw [h, Nat.xor_zero] at h1; exact ⟨_, h1⟩
  · rintro ⟨k, rfl⟩
    exact (qr_eq (q := k) (r := 0) (by simp) (by have := bl_pos.2 hb; simpa [bl_zero] using this)).2

/-! ### rests -/

/-- The same by p. -/
def cg (p a b : Nat) : Prop := dv p (a ^^^ b)
theorem cg_refl (p a : Nat) : cg p a a := by unfold cg; rw [Nat.xor_self]; exact dv_zero p
theorem cg_symm {p a b : Nat} (h : cg p a b) : cg p b a := by unfold cg at *; rwa [Nat.xor_comm]
theorem cg_trans {p a b c : Nat} (h : cg p a b) (g : cg p b c) : cg p a c := by
  have := dv_xor h g
  rwa [Nat.xor_assoc, xor_cancel] at this
theorem cg_xor {p a b c d : Nat} (h : cg p a b) (g : cg p c d) : cg p (a ^^^ c) (b ^^^ d) := by
  have := dv_xor h g
  unfold cg
  rwa [show a ^^^ c ^^^ (b ^^^ d) = a ^^^ b ^^^ (c ^^^ d) by ac_rfl]
theorem cg_cm {p a b c d : Nat} (h : cg p a b) (g : cg p c d) : cg p (cm a c) (cm b d) := by
  have h1 : dv p (cm a c ^^^ cm b c) := by rw [← cm_xor_left]; exact dv_mul_right h c
  have h2 : dv p (cm b c ^^^ cm b d) := by rw [← cm_xor_right]; exact dv_mul g b
  exact cg_trans h1 h2
theorem cg_rm (a : Nat) {p : Nat} (hp : p ≠ 0) : cg p (rm a p) a := by
  obtain ⟨h1, _⟩ := qr_spec a hp
  refine ⟨qd a p, ?_⟩
  rw [xor_eq]
  exact (xor_eq.1 (by rw [Nat.xor_comm]; exact h1.symm)).trans (Nat.xor_comm _ _)
theorem rm_lt (a : Nat) {p : Nat} (hp : p ≠ 0) : bl (rm a p) < bl p := (qr_spec a hp).2
theorem rm_eq_iff {a b p : Nat} (hp : p ≠ 0) : rm a p = rm b p ↔ cg p a b := by
  constructor
  · intro h; exact cg_trans (cg_symm (cg_rm a hp)) (by rw [h]; exact cg_rm b hp)
  · rintro ⟨k, hk⟩
    obtain ⟨h1, h2⟩ := qr_spec b hp
    have : a = cm (k ^^^ qd b p) p ^^^ rm b p := by
      rw [cm_xor_left, ← hk, Nat.xor_assoc, ← h1, Nat.xor_assoc, Nat.xor_self, Nat.xor_zero]
    exact (qr_eq this h2).2
theorem rm_small {a p : Nat} (h : bl a < bl p) : rm a p = a := (qr_eq (q := 0) (by rw [cm_zero_left, Nat.zero_xor]) h).2
theorem rm_unique {a r p : Nat} (h : bl r < bl p) (g : cg p r a) : rm a p = r := by
  have hp : p ≠ 0 := bl_pos.1 (by omega)
  rw [← rm_small h]; exact (rm_eq_iff hp).2 (cg_symm g)
theorem rm_rm (a : Nat) {p : Nat} (hp : p ≠ 0) : rm (rm a p) p = rm a p := rm_small (rm_lt a hp)
theorem rm_xor (a b : Nat) {p : Nat} (hp : p ≠ 0) : rm (a ^^^ b) p = rm a p ^^^ rm b p := by
  refine rm_unique ?_ (cg_xor (cg_rm a hp) (cg_rm b hp))
  have := bl_xor_le (rm a p) (rm b p); have := rm_lt a hp; have := rm_lt b hp; omega
theorem rm_cm (a b : Nat) {p : Nat} (hp : p ≠ 0) : rm (cm (rm a p) (rm b p)) p = rm (cm a b) p :=
  (rm_eq_iff hp).2 (cg_cm (cg_rm a hp) (cg_rm b hp))
theorem rm_zero {p : Nat} (hp : p ≠ 0) : rm 0 p = 0 := (rm_zero_iff hp).2 (dv_zero p)

/-! ### the greatest part of both -/

/-- The greatest part of both, and how often the first one is in it: down from two rows. -/
def egF : Nat → Nat → Nat → Nat → Nat → Nat × Nat
  | 0, r, s, _, _ => (r, s)
  | k + 1, r, s, r', s' => if r' = 0 then (r, s) else egF k r' s' (rm r r') (s ^^^ cm (qd r r') s')
def eg (a b : Nat) : Nat × Nat := egF (bl b + 1) a 1 b 0
def gd (a b : Nat) : Nat := (eg a b).1

/-- What a row tells: r is s times a, but for parts of b. -/
def rowOk (a b r s : Nat) : Prop := cg b (cm s a) r

theorem egF_spec (a b : Nat) : ∀ k r s r' s', bl r' < k → rowOk a b r s → rowOk a b r' s' →
    rowOk a b (egF k r s r' s').1 (egF k r s r' s').2 ∧ (∀ d, dv d (egF k r s r' s').1 ↔ dv d r ∧ dv d r')
  | 0, _, _, _, _, h, _, _ => by omega
  | k + 1, r, s, r', s', h, h1, h2 => by
    unfold egF
    split
    · rename_i h0; subst h0
      exact ⟨h1, fun d => ⟨fun hd => ⟨hd, dv_zero d⟩, fun hd => hd.1⟩⟩
    · rename_i h0
      obtain ⟨e1, e2⟩ := qr_spec r h0
      have e3 : rm r r' = r ^^^ cm (qd r r') r' := by
        rw [Nat.xor_comm] at e1; exact xor_eq.1 e1.symm
      have h3 : rowOk a b (rm r r') (s ^^^ cm (qd r r') s') := by
        unfold rowOk
        rw [e3, cm_xor_left, cm_assoc]
        exact cg_xor h1 (cg_cm (cg_refl _ _) h2)
      obtain ⟨h4, h5⟩ := egF_spec a b k r' s' (rm r r') _ (by omega) h2 h3
      refine ⟨h4, fun d => ?_⟩
      rw [h5, e3]
      constructor
      · rintro ⟨g1, g2⟩
        refine ⟨?_, g1⟩
        have := dv_xor g2 (dv_mul g1 (qd r r'))
        rwa [xor_cancel'] at this
      · rintro ⟨g1, g2⟩
        exact ⟨g2, dv_xor g1 (dv_mul g2 _)⟩

theorem eg_spec (a b : Nat) : cg b (cm (eg a b).2 a) (gd a b) ∧ ∀ d, dv d (gd a b) ↔ dv d a ∧ dv d b := by
  refine egF_spec a b _ a 1 b 0 (by omega) ?_ ?_
  · unfold rowOk; rw [cm_one_left]; exact cg_refl _ _
  · unfold rowOk cg; rw [cm_zero_left, Nat.zero_xor]; exact dv_refl b

theorem eg_step_bl {M r s r' s' : Nat} (hr' : r' ≠ 0) (h1 : bl s' + bl r ≤ M) (h2 : bl s + bl r' ≤ M) : bl (s ^^^ cm (qd r r') s') + bl r' ≤ M := by
  have g1 := bl_xor_le s (cm (qd r r') s')
  by_cases hs : s' = 0
  · rw [hs, cm_zero_right, bl_zero] at g1; rw [hs, cm_zero_right]; omega
  · rcases Nat.lt_or_ge (bl r) (bl r') with g | g
    · rw [(qd_lt g).1, cm_zero_left, bl_zero] at g1; rw [(qd_lt g).1, cm_zero_left]; omega
    · have g2 := bl_qd hr' g
      have g3 := bl_cm (a := qd r r') (b := s') (bl_pos.1 (by omega)) hs
      omega
theorem egF_bl {M : Nat} : ∀ k r s r' s', bl s' + bl r ≤ M → bl s + bl r' ≤ M → bl (egF k r s r' s').1 ≤ M ∧ bl (egF k r s r' s').2 ≤ M
  | 0, r, s, r', s', h1, h2 => ⟨by simp only [egF]; omega, by simp only [egF]; omega⟩
  | k + 1, r, s, r', s', h1, h2 => by
    unfold egF
    split
    · exact ⟨by show bl r ≤ M; omega, by show bl s ≤ M; omega⟩
    · rename_i h0
      have := bl_rm_le r h0
      exact egF_bl k r' s' _ _ (eg_step_bl h0 h1 h2) (by omega)
theorem eg_bl (a b : Nat) : bl (eg a b).1 ≤ bl a + bl b + 1 ∧ bl (eg a b).2 ≤ bl a + bl b + 1 :=
  egF_bl _ _ _ _ _ (by rw [bl_zero]; omega) (by have : bl 1 = 1 := rfl; omega)
theorem gd_bl (a b : Nat) : bl (gd a b) ≤ bl a + bl b + 1 := (eg_bl a b).1

theorem gd_dv_left (a b : Nat) : dv (gd a b) a := (((eg_spec a b).2 _).1 (dv_refl _)).1
theorem gd_dv_right (a b : Nat) : dv (gd a b) b := (((eg_spec a b).2 _).1 (dv_refl _)).2
theorem dv_gd {a b d : Nat} (h : dv d a) (g : dv d b) : dv d (gd a b) := ((eg_spec a b).2 _).2 ⟨h, g⟩
theorem gd_bezout (a b : Nat) : ∃ s t, gd a b = cm s a ^^^ cm t b := by
  obtain ⟨k, hk⟩ := (eg_spec a b).1
  refine ⟨(eg a b).2, k, ?_⟩
  rw [Nat.xor_comm] at hk
  rw [xor_eq.1 hk, Nat.xor_comm]
theorem gd_comm (a b : Nat) : gd a b = gd b a :=
  dv_antisymm (dv_gd (gd_dv_right a b) (gd_dv_left a b)) (dv_gd (gd_dv_right b a) (gd_dv_left b a))
theorem gd_eq_zero {a b : Nat} : gd a b = 0 ↔ a = 0 ∧ b = 0 := by
  constructor
  · intro h
    have h1 := gd_dv_left a b; have h2 := gd_dv_right a b
    rw [h] at h1 h2
    exact ⟨dv_of_zero h1, dv_of_zero h2⟩
  · rintro ⟨rfl, rfl⟩; rfl
theorem gd_cm (a b c : Nat) : gd (cm a c) (cm b c) = cm (gd a b) c := by
  by_cases hc : c = 0
  · subst hc; rw [cm_zero_right, cm_zero_right, cm_zero_right]; rfl
  apply dv_antisymm
  · obtain ⟨s, t, h⟩ := gd_bezout a b
    rw [h, cm_xor_left, cm_assoc, cm_assoc]
    exact dv_xor (dv_mul (gd_dv_left _ _) _) (dv_mul (gd_dv_right _ _) _)
  · exact dv_gd ((dv_cancel hc).2 (gd_dv_left a b)) ((dv_cancel hc).2 (gd_dv_right a b))

/-- What makes the rest 1, where there is such. -/
def iv (a p : Nat) : Nat := rm (eg a p).2 p

theorem iv_spec {a p : Nat} (hp : p ≠ 0) (h : gd a p = 1) : cg p (cm (iv a p) a) 1 ∧ bl (iv a p) < bl p := by
  refine ⟨?_, rm_lt _ hp⟩
  have h1 := (eg_spec a p).1
  rw [h] at h1
  exact cg_trans (cg_cm (cg_rm _ hp) (cg_refl _ _)) h1
theorem iv_unique {a p u : Nat} (hp : p ≠ 0) (h : gd a p = 1) (hu : bl u < bl p) (g : cg p (cm u a) 1) : u = iv a p := by
  obtain ⟨h1, h2⟩ := iv_spec hp h
  have e : cg p u (iv a p) := by
    have e1 : cg p (cm u (cm (iv a p) a)) u := by
      have := cg_cm (cg_refl p u) h1; rwa [cm_one_right] at this
    have e2 : cg p (cm (cm u a) (iv a p)) (iv a p) := by
      have := cg_cm g (cg_refl p (iv a p)); rwa [cm_one_left] at this
    rw [show cm u (cm (iv a p) a) = cm (cm u a) (iv a p) by rw [cm_assoc, cm_comm a]] at e1
    exact cg_trans (cg_symm e1) e2
  rw [← rm_small hu, ← rm_small h2]
  exact (rm_eq_iff hp).2 e
theorem inv_gd {a p u : Nat} (g : cg p (cm u a) 1) : gd a p = 1 := by
  have h1 : dv (gd a p) (cm u a ^^^ 1) := dv_trans (gd_dv_right a p) g
  have h2 : dv (gd a p) (cm u a) := dv_mul (gd_dv_left a p) u
  have h3 := (dv_xor_iff h2).1 h1
  exact dv_antisymm h3 (dv_one _)
theorem bl_one_iff {a : Nat} : bl a = 1 ↔ a = 1 := by
  constructor
  · intro h
    have h1 := lt_bl a
    have h2 := bl_pos.1 (show 0 < bl a by omega)
    rw [h] at h1; omega
  · rintro rfl; rfl
end Go.Proofs.Ytaojebdjkpdcdaa.I
