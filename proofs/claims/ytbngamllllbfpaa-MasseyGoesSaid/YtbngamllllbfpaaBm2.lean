/- Rules of a row. Plain Lean. -/
import Derived.Test.YtbngamllllbfpaaBm
namespace Go.Proofs.Ytbngamllllbfpaa.I

/-- The number of bits. -/
def ofB (f : Nat → Bool) : Nat → Nat
  | 0 => 0
  | n + 1 => ofB f n ^^^ (if f n = true then 2 ^ n else 0)
theorem testBit_ofB (f : Nat → Bool) (n k : Nat) : (ofB f n).testBit k = (decide (k < n) && f k) := by
  induction n with
  | zero => simp [ofB]
  | succ n ih =>
    rw [ofB, Nat.testBit_xor, ih]
    by_cases e : k = n
    · subst e
      cases hf : f k
      · simp
      · simp
    · have h1 : (k < n + 1) ↔ (k < n) := by omega
      have h2 : ¬ n = k := fun h => e h.symm
      simp only [h1]
      split
      · rw [Nat.testBit_two_pow]; simp [h2]
      · simp

theorem bl_le_of {x n : Nat} (h : ∀ k, n ≤ k → x.testBit k = false) : bl x ≤ n := by
  rcases Nat.lt_or_ge n (bl x) with g | g
  · have h0 : x ≠ 0 := bl_pos.1 (by omega)
    have := bl_top h0
    rw [h _ (by omega)] at this; cases this
  · exact g

/-- The number of a row. -/
def rv (l : List Bool) : Nat := ofB (fun k => l.getD k false) l.length
theorem testBit_rv (l : List Bool) (k : Nat) : (rv l).testBit k = l.getD k false := by
  unfold rv; rw [testBit_ofB]
  by_cases h : k < l.length
  · simp [h]
  · simp [h, List.getD]

/-- Told from its highest part on. -/
def revP (d p : Nat) : Nat := ofB (fun k => p.testBit (d - k)) (d + 1)
theorem testBit_revP (d p k : Nat) : (revP d p).testBit k = (decide (k < d + 1) && p.testBit (d - k)) := testBit_ofB _ _ _
theorem revP_revP {d p : Nat} (h : bl p ≤ d + 1) : revP d (revP d p) = p := by
  apply Nat.eq_of_testBit_eq
  intro k
  rw [testBit_revP, testBit_revP]
  by_cases hk : k < d + 1
  · have : d - k < d + 1 := by omega
    rw [show d - (d - k) = k by omega]; simp [hk, this]
  · rw [testBit_bl (show bl p ≤ k by omega)]; simp [hk]
theorem bl_revP (d p : Nat) : bl (revP d p) ≤ d + 1 := bl_le_of fun k hk => by
  rw [testBit_revP]
  have : ¬ k < d + 1 := by omega
  simp [this]

/-- Is an odd number of the bits that p takes from a place on 1? -/
def od (p : Nat) (l : List Bool) (i d : Nat) : Bool := px (d + 1) fun k => p.testBit k && l.getD (i + k) false

theorem cm_revP (p : Nat) (l : List Bool) (i d : Nat) : (cm (revP d p) (rv l)).testBit (i + d) = od p l i d := by
  rw [testBit_cm, px_more (m := d + 1) (by omega) (fun k h1 h2 => by
    rw [testBit_revP]; have : ¬ k < d + 1 := by omega
    simp [this]), px_rev]
  refine px_congr fun k hk => ?_
  rw [testBit_revP, testBit_rv]
  have h1 : d - k < d + 1 := by omega
  rw [show d - (d - k) = k by omega, show i + d - (d - k) = i + k by omega]
  simp [h1]

/-- A rule of a row. -/
def Ru (l : List Bool) (p : Nat) : Prop := p ≠ 0 ∧ ∀ i, i + (bl p - 1) < l.length → od p l i (bl p - 1) = false

theorem Ru.ok {l : List Bool} {p : Nat} (h : Ru l p) : Ok' (rv l) (revP (bl p - 1) p) (bl p - 1) l.length := by
  refine ⟨?_, bl_revP _ _, fun j h1 h2 => ?_⟩
  · rw [testBit_revP]; simpa using bl_top h.1
  · have := cm_revP p l (j - (bl p - 1)) (bl p - 1)
    rw [show j - (bl p - 1) + (bl p - 1) = j by omega] at this
    rw [this]; exact h.2 _ (by omega)

theorem ru_of {l : List Bool} {c n : Nat} (h : Ok' (rv l) c n l.length) : Ru l (revP n c) ∧ bl (revP n c) = n + 1 := by
  have hb : bl (revP n c) = n + 1 := by
    have h1 := bl_revP n c
    have h2 : (revP n c).testBit n = true := by rw [testBit_revP]; simpa using h.1
    have := bl_of_testBit h2
    omega
  refine ⟨⟨bl_pos.1 (by omega), fun i hi => ?_⟩, hb⟩
  rw [hb] at hi ⊢
  rw [Nat.add_sub_cancel] at hi ⊢
  rw [← cm_revP, revP_revP h.2.1]
  exact h.2.2 _ (by omega) hi

def bmL (l : List Bool) : Bm := bm (rv l) l.length
/-- The least degree of a rule; the least rule. -/
def lc (l : List Bool) : Nat := (bmL l).n
def lst (l : List Bool) : Nat := revP (lc l) (bmL l).c

theorem lst_ru (l : List Bool) : Ru l (lst l) ∧ bl (lst l) = lc l + 1 := ru_of (bm_ok _ _).ok
theorem lc_le (l : List Bool) : lc l ≤ l.length := (bm_ok _ _).ni
theorem lc_least {l : List Bool} {p : Nat} (h : Ru l p) : lc l ≤ bl p - 1 := (bm_ok _ _).least _ _ h.ok
theorem lst_unique {l : List Bool} {p : Nat} (h : Ru l p) (hb : bl p = lc l + 1) (hl : 2 * lc l ≤ l.length) : p = lst l := by
  have h1 := h.ok
  rw [show bl p - 1 = lc l by omega] at h1
  have := massey_unique (bm_ok (rv l) l.length).ok h1 (bm_ok _ _).least hl
  have e : lst l = revP (lc l) (revP (lc l) p) := by unfold lst bmL; rw [this]
  rw [e, revP_revP (by omega)]

theorem Ru.take {l : List Bool} {p : Nat} (h : Ru l p) (k : Nat) : Ru (l.take k) p := by
  refine ⟨h.1, fun i hi => ?_⟩
  rw [List.length_take] at hi
  have := h.2 i (by omega)
  rw [← this]
  unfold od
  refine px_congr fun m hm => ?_
  congr 1
  simp only [List.getD_eq_getElem?_getD]
  rw [List.getElem?_take, if_pos (by omega)]

/-! ### by the row turned about -/
theorem testBit_rev (l : List Bool) {m : Nat} (h : m < l.length) : (rv l.reverse).testBit (l.length - 1 - m) = l.getD m false := by
  rw [testBit_rv]
  simp only [List.getD_eq_getElem?_getD]
  rw [List.getElem?_reverse (by omega)]
  congr 2; omega

theorem cm_rev (p : Nat) (l : List Bool) {i d : Nat} (hd : bl p ≤ d + 1) (hi : i + d < l.length) : (cm p (rv l.reverse)).testBit (l.length - 1 - i) = od p l i d := by
  rw [testBit_cm, px_more (m := d + 1) (by omega) (fun k h1 h2 => by rw [testBit_bl (x := p) (by omega)]; simp)]
  refine px_congr fun k hk => ?_
  rw [show l.length - 1 - i - k = l.length - 1 - (i + k) by omega, testBit_rev l (by omega)]

theorem ru_rev {l : List Bool} {p : Nat} : Ru l p ↔ p ≠ 0 ∧ ∀ j, bl p - 1 ≤ j → j < l.length → (cm p (rv l.reverse)).testBit j = false := by
  constructor
  · rintro ⟨h0, h⟩
    refine ⟨h0, fun j h1 h2 => ?_⟩
    have := cm_rev p l (i := l.length - 1 - j) (d := bl p - 1) (by omega) (by omega)
    rw [show l.length - 1 - (l.length - 1 - j) = j by omega] at this
    rw [this]; exact h _ (by omega)
  · rintro ⟨h0, h⟩
    refine ⟨h0, fun i hi => ?_⟩
    rw [← cm_rev p l (by omega) hi]
    exact h _ (by omega) (by omega)

/-- Above a place nothing stands, up to another one: so it is of products. -/
theorem cm_gap {q x d N j : Nat} (h : ∀ k, d ≤ k → k < N → x.testBit k = false) (hq : q ≠ 0) (h1 : d + (bl q - 1) ≤ j) (h2 : j < N) : (cm q x).testBit j = false := by
  have e1 : (cm q x).testBit j = (cm q (x % 2 ^ (j + 1))).testBit j := by
    have := congrArg (fun x => Nat.testBit x j) (cm_low q x (j + 1))
    simpa [Nat.testBit_mod_two_pow] using this
  have e2 : x % 2 ^ (j + 1) = x % 2 ^ d := by
    apply Nat.eq_of_testBit_eq
    intro k
    rw [Nat.testBit_mod_two_pow, Nat.testBit_mod_two_pow]
    by_cases hk : k < d
    · have : k < j + 1 := by omega
      simp [*]
    · by_cases hk2 : k < j + 1
      · have := h k (by omega) (by omega)
        simp [*]
      · simp [*]
  rw [e1, e2]
  by_cases h0 : x % 2 ^ d = 0
  · rw [h0, cm_zero_right]; simp
  · have := bl_cm hq h0
    have := (bl_lt (k := d)).2 (Nat.mod_lt x (Nat.pow_pos (by omega)))
    have := bl_pos.2 hq
    exact testBit_bl (by omega)

theorem Ru.mul {l : List Bool} {p q : Nat} (h : Ru l p) (hq : q ≠ 0) : Ru l (cm p q) := by
  rw [ru_rev] at h ⊢
  have hb := bl_cm h.1 hq
  have := bl_pos.2 hq
  have := bl_pos.2 h.1
  refine ⟨fun e => (cm_eq_zero.1 e).elim h.1 hq, fun j h1 h2 => ?_⟩
  rw [cm_comm p q, cm_assoc]
  exact cm_gap h.2 hq (by omega) h2

/-- A rule of a row that is long enough is a product with the least one. -/
theorem lst_dv {l : List Bool} {p : Nat} (h : Ru l p) (hl : 2 * (bl p - 1) ≤ l.length) : dv (lst l) p := by
  obtain ⟨h1, h2⟩ := lst_ru l
  have h3 := lc_least h
  have hq : lst l ≠ 0 := h1.1
  have hp := bl_pos.2 h.1
  rw [← rm_zero_iff hq]
  rcases Decidable.em (rm p (lst l) = 0) with e | e
  · exact e
  exfalso
  obtain ⟨r, hr⟩ : ∃ r, rm p (lst l) = r := ⟨_, rfl⟩
  obtain ⟨s1, s2⟩ := qr_spec p hq
  rw [hr] at e s1 s2
  have hr0 := bl_pos.2 e
  have z : ∀ j, bl p - 1 ≤ j → j < l.length → (cm r (rv l.reverse)).testBit j = false := fun j j1 j2 => by
    have e1 : r = p ^^^ cm (qd p (lst l)) (lst l) := by
      rw [Nat.xor_comm] at s1; exact xor_eq.1 s1.symm
    rw [e1, cm_xor_left, Nat.testBit_xor, (ru_rev.1 h).2 j j1 j2]
    by_cases hk : qd p (lst l) = 0
    · rw [hk, cm_zero_left, cm_zero_left]; simp
    · have hm := h1.mul hk
      rw [cm_comm] at hm
      have hbm := bl_cm hk hq
      have hle : bl (cm (qd p (lst l)) (lst l)) ≤ bl p := by
        have : cm (qd p (lst l)) (lst l) = p ^^^ r := by
          rw [e1, xor_cancel]
        rw [this]
        have := bl_xor_le p r; omega
      rw [(ru_rev.1 hm).2 j (by omega) j2]; rfl
  have ok : Ok' (rv l) (revP (bl r - 1) r) (bl r - 1) (l.length - (bl p - 1) + (bl r - 1)) := by
    refine ⟨by rw [testBit_revP]; simpa using bl_top e, bl_revP _ _, fun j j1 j2 => ?_⟩
    have := cm_revP r l (j - (bl r - 1)) (bl r - 1)
    rw [show j - (bl r - 1) + (bl r - 1) = j by omega] at this
    rw [this, ← cm_rev r l (by omega) (by omega)]
    exact z _ (by omega) (by omega)
  exact massey_one (bm_ok (rv l) l.length).ok (bm_ok _ _).least ok (by show bl r - 1 < lc l; omega) (by show lc l + _ < _; omega) (by omega)
end Go.Proofs.Ytbngamllllbfpaa.I
