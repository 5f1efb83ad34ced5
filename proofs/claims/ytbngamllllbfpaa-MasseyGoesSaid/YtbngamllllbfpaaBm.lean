/- The least rule of a row. Plain Lean. -/
import Derived.Test.YtbngamllllbfpaaGf2
namespace Go.Proofs.Ytbngamllllbfpaa.I

/-- Is an odd number of them so? -/
def px : Nat → (Nat → Bool) → Bool
  | 0, _ => false
  | n + 1, f => px n f ^^ f n

theorem px_front (n : Nat) (f : Nat → Bool) : px (n + 1) f = (f 0 ^^ px n fun k => f (k + 1)) := by
  induction n with
  | zero => simp [px]
  | succ n ih =>
    rw [px, ih]
    simp only [px]
    rw [Bool.xor_assoc]
theorem px_congr {n : Nat} {f g : Nat → Bool} (h : ∀ k, k < n → f k = g k) : px n f = px n g := by
  induction n with
  | zero => rfl
  | succ n ih => rw [px, px, ih fun k hk => h k (by omega), h n (by omega)]
theorem px_false {n : Nat} {f : Nat → Bool} (h : ∀ k, k < n → f k = false) : px n f = false := by
  induction n with
  | zero => rfl
  | succ n ih => rw [px, ih fun k hk => h k (by omega), h n (by omega)]; rfl
theorem px_rev (n : Nat) (f : Nat → Bool) : px (n + 1) f = px (n + 1) fun k => f (n - k) := by
  induction n generalizing f with
  | zero => rfl
  | succ n ih =>
    rw [px, px_front (n + 1)]
    rw [ih f, Bool.xor_comm]
    congr 1
    refine px_congr fun k hk => ?_
    congr 1; omega
/-- What is so for none beyond a place. -/
theorem px_more {m n : Nat} {f : Nat → Bool} (h : m ≤ n) (hf : ∀ k, m ≤ k → k < n → f k = false) : px n f = px m f := by
  induction n with
  | zero => rw [show m = 0 by omega]
  | succ n ih =>
    by_cases e : m = n + 1
    · rw [e]
    · rw [px, ih (by omega) fun k h1 h2 => hf k h1 (by omega), hf n (by omega) (by omega), Bool.xor_false]

theorem testBit_cm (a b j : Nat) : (cm a b).testBit j = px (j + 1) fun k => a.testBit k && b.testBit (j - k) := by
  induction j generalizing a with
  | zero =>
    rw [cm_step, Nat.testBit_xor, Nat.testBit_zero (2 * _)]
    simp only [px]
    rw [show (2 * cm (a / 2) b) % 2 = 0 by omega]
    simp only [Nat.zero_ne_one, decide_false, Bool.xor_false, Bool.false_xor, Nat.sub_self]
    rw [Nat.testBit_zero a]
    split <;> simp_all
  | succ j ih =>
    rw [cm_step, Nat.testBit_xor, tb2, ih, px_front (j + 1)]
    congr 1
    · rw [Nat.testBit_zero a]
      split <;> simp_all
    · refine px_congr fun k hk => ?_
      rw [Nat.testBit_succ a]
      congr 2; omega

theorem cm_low (a b k : Nat) : (cm a b) % 2 ^ k = (cm a (b % 2 ^ k)) % 2 ^ k := by
  apply Nat.eq_of_testBit_eq
  intro i
  rw [Nat.testBit_mod_two_pow, Nat.testBit_mod_two_pow]
  by_cases h : i < k
  · simp only [h, decide_true, Bool.true_and]
    rw [testBit_cm, testBit_cm]
    refine px_congr fun m hm => ?_
    rw [Nat.testBit_mod_two_pow]
    have : i - m < k := by omega
    simp [this]
  · simp [h]

/-- A polynomial, told from its highest part on, that a row keeps to from a length on, up to a place. -/
def Ok' (s c n i : Nat) : Prop := c.testBit 0 = true ∧ bl c ≤ n + 1 ∧ ∀ j, n ≤ j → j < i → (cm c s).testBit j = false

theorem Ok'.less {s c n i i' : Nat} (h : Ok' s c n i) (hi : i' ≤ i) : Ok' s c n i' := ⟨h.1, h.2.1, fun j h1 h2 => h.2.2 j h1 (by omega)⟩

/-- What one rule says at a place where the other one is wrong. -/
theorem massey {s c c' n n' i : Nat} (h : Ok' s c n i) (hn : n ≤ i) (h1 : (cm c s).testBit i = true) (h' : Ok' s c' n' (i + 1)) : i + 1 ≤ n + n' := by
  rcases Nat.lt_or_ge i (n + n') with g | g
  · exact g
  exfalso
  have z : ∀ a x m k : Nat, bl a ≤ k + 1 → x < 2 ^ m → m + k ≤ i → (cm a x).testBit i = false := fun a x m k ha hx hm => by
    by_cases h0 : x = 0
    · subst h0; rw [cm_zero_right]; simp
    · by_cases ha0 : a = 0
      · subst ha0; rw [cm_zero_left]; simp
      · have := bl_cm ha0 h0
        have := bl_lt.2 hx
        exact testBit_bl (by omega)
  have low : ∀ a b : Nat, (cm a b).testBit i = (cm a (b % 2 ^ (i + 1))).testBit i := fun a b => by
    have := congrArg (fun x => Nat.testBit x i) (cm_low a b (i + 1))
    simpa [Nat.testBit_mod_two_pow] using this
  have e1 : (cm c s) % 2 ^ (i + 1) = (cm c s) % 2 ^ n ^^^ 2 ^ i := by
    apply Nat.eq_of_testBit_eq
    intro j
    rw [Nat.testBit_xor, Nat.testBit_mod_two_pow, Nat.testBit_mod_two_pow, Nat.testBit_two_pow]
    by_cases hj : j < n
    · have : ¬ i = j := by omega
      have : j < i + 1 := by omega
      simp [*]
    · by_cases hj2 : j < i
      · have := h.2.2 j (by omega) hj2
        have : ¬ i = j := by omega
        simp [*]
      · by_cases hj3 : j = i
        · subst hj3; simp [hj, h1]
        · have : ¬ j < i + 1 := by omega
          have : ¬ i = j := by omega
          simp [*]
  have e2 : (cm c' s) % 2 ^ (i + 1) = (cm c' s) % 2 ^ n' := by
    apply Nat.eq_of_testBit_eq
    intro j
    rw [Nat.testBit_mod_two_pow, Nat.testBit_mod_two_pow]
    by_cases hj : j < n'
    · have : j < i + 1 := by omega
      simp [*]
    · by_cases hj2 : j < i + 1
      · have := h'.2.2 j (by omega) hj2
        simp [*]
      · simp [*]
  have t1 : (cm c' (cm c s)).testBit i = true := by
    rw [low, e1, cm_xor_right, Nat.testBit_xor, cm_pow_right, Nat.testBit_shiftLeft, Nat.sub_self, h'.1]
    rw [z c' _ n n' h'.2.1 (Nat.mod_lt _ (Nat.pow_pos (by omega))) (by omega)]
    simp
  have t2 : (cm c (cm c' s)).testBit i = false := by
    rw [low, e2]
    exact z c _ n' n h.2.1 (Nat.mod_lt _ (Nat.pow_pos (by omega))) (by omega)
  rw [cm_left_comm, t2] at t1
  cases t1

/-- How far the search is: the rule, the one ahead of the last time that its length grew, the length, how long ago that was. -/
structure Bm where
  c : Nat
  b : Nat
  n : Nat
  ago : Nat

def bmStep (s i : Nat) (t : Bm) : Bm :=
  if (cm t.c s).testBit i = true then
    if 2 * t.n ≤ i then ⟨t.c ^^^ t.b <<< t.ago, t.c, i + 1 - t.n, 1⟩ else ⟨t.c ^^^ t.b <<< t.ago, t.b, t.n, t.ago + 1⟩
  else ⟨t.c, t.b, t.n, t.ago + 1⟩
def bm (s : Nat) : Nat → Bm
  | 0 => ⟨1, 1, 0, 1⟩
  | i + 1 => bmStep s i (bm s i)

structure BmOk (s i : Nat) (t : Bm) : Prop where
  ok : Ok' s t.c t.n i
  ni : t.n ≤ i
  ago : 1 ≤ t.ago
  b : (t.n = 0 ∧ t.c = 1 ∧ t.b = 1 ∧ t.ago = i + 1) ∨ ∃ m, t.ago ≤ i ∧ Ok' s t.b m (i - t.ago) ∧ (cm t.b s).testBit (i - t.ago) = true ∧ t.n + m = i - t.ago + 1
  least : ∀ c' n', Ok' s c' n' i → t.n ≤ n'
  bb : bl t.b ≤ i + 1 ∧ t.ago ≤ i + 1

theorem bm_ok (s : Nat) : ∀ i, BmOk s i (bm s i)
  | 0 => ⟨⟨by show Nat.testBit 1 0 = true; rfl, Nat.le_refl _, fun j _ h => by omega⟩, Nat.le_refl _, Nat.le_refl _, .inl ⟨rfl, rfl, rfl, rfl⟩, fun _ _ _ => Nat.zero_le _, ⟨Nat.le_refl _, Nat.le_refl _⟩⟩
  | i + 1 => by
    have H := bm_ok s i
    show BmOk s (i + 1) (bmStep s i (bm s i))
    generalize bm s i = t at H
    obtain ⟨⟨c0, c1, c2⟩, hni, hago, hb, hleast, hbb⟩ := H
    unfold bmStep
    split
    · rename_i hw
      -- the new rule
      have new0 : (t.c ^^^ t.b <<< t.ago).testBit 0 = true := by
        rw [Nat.testBit_xor, Nat.testBit_shiftLeft, c0]
        have : ¬ t.ago ≤ 0 := by omega
        simp [this]
      have new1 : bl (t.c ^^^ t.b <<< t.ago) ≤ max t.n (i + 1 - t.n) + 1 := by
        have h1 := bl_xor_le t.c (t.b <<< t.ago)
        have h2 : bl (t.b <<< t.ago) ≤ i + 1 - t.n + 1 := by
          rcases hb with ⟨e1, e2, e3, e4⟩ | ⟨m, g1, g2, g3, g4⟩
          · rw [e3, e4, bl_shl (by omega)]; have : bl 1 = 1 := rfl; omega
          · have hb0 : t.b ≠ 0 := by intro e; have := g2.1; rw [e] at this; simp at this
            rw [bl_shl hb0]; have := g2.2.1; omega
        omega
      have new2 : ∀ j, max t.n (i + 1 - t.n) ≤ j → j < i + 1 → (cm (t.c ^^^ t.b <<< t.ago) s).testBit j = false := fun j h1 h2 => by
        rw [cm_xor_left, Nat.testBit_xor, cm_shl_left, Nat.testBit_shiftLeft]
        rcases hb with ⟨e1, e2, e3, e4⟩ | ⟨m, g1, g2, g3, g4⟩
        · exfalso; omega
        · by_cases hj : j = i
          · subst hj
            rw [hw, g3]
            have : t.ago ≤ j := g1
            simp [this]
          · rw [c2 j (by omega) (by omega)]
            by_cases ha : t.ago ≤ j
            · have := g2.2.2 (j - t.ago) (by omega) (by omega)
              simp [this]
            · simp [ha]
      split
      · rename_i hg
        have e : max t.n (i + 1 - t.n) = i + 1 - t.n := by omega
        rw [e] at new1 new2
        refine ⟨⟨new0, new1, new2⟩, by show i + 1 - t.n ≤ i + 1; omega, Nat.le_refl _, .inr ⟨t.n, by show 1 ≤ i + 1; omega, ?_, ?_, ?_⟩, fun c' n' h' => ?_, ?_⟩
        · show Ok' s t.c t.n (i + 1 - 1)
          exact ⟨c0, c1, fun j h1 h2 => c2 j h1 (by omega)⟩
        · show (cm t.c s).testBit (i + 1 - 1) = true
          exact hw
        · show i + 1 - t.n + t.n = i + 1 - 1 + 1
          omega
        · have := massey ⟨c0, c1, c2⟩ hni hw h'
          show i + 1 - t.n ≤ n'
          omega
        · exact ⟨by show bl t.c ≤ i + 1 + 1; omega, by show 1 ≤ i + 1 + 1; omega⟩
      · rename_i hg
        have e : max t.n (i + 1 - t.n) = t.n := by omega
        rw [e] at new1 new2
        refine ⟨⟨new0, new1, new2⟩, by show t.n ≤ i + 1; omega, by show 1 ≤ t.ago + 1; omega, ?_, fun c' n' h' => hleast c' n' (h'.less (by omega)), ?_⟩
        · rcases hb with ⟨e1, e2, e3, e4⟩ | ⟨m, g1, g2, g3, g4⟩
          · exfalso; omega
          · refine .inr ⟨m, by show t.ago + 1 ≤ i + 1; omega, ?_, ?_, ?_⟩
            · show Ok' s t.b m (i + 1 - (t.ago + 1))
              rw [show i + 1 - (t.ago + 1) = i - t.ago by omega]; exact g2
            · show (cm t.b s).testBit (i + 1 - (t.ago + 1)) = true
              rw [show i + 1 - (t.ago + 1) = i - t.ago by omega]; exact g3
            · show t.n + m = i + 1 - (t.ago + 1) + 1
              omega
        · exact ⟨by show bl t.b ≤ i + 1 + 1; omega, by show t.ago + 1 ≤ i + 1 + 1; omega⟩
    · rename_i hw
      have hw' : (cm t.c s).testBit i = false := by simpa using hw
      refine ⟨⟨c0, c1, fun j h1 h2 => ?_⟩, by show t.n ≤ i + 1; omega, by show 1 ≤ t.ago + 1; omega, ?_, fun c' n' h' => hleast c' n' (h'.less (by omega)), ?_⟩
      · by_cases hj : j = i
        · subst hj; exact hw'
        · exact c2 j h1 (by omega)
      · rcases hb with ⟨e1, e2, e3, e4⟩ | ⟨m, g1, g2, g3, g4⟩
        · exact .inl ⟨e1, e2, e3, by show t.ago + 1 = i + 1 + 1; omega⟩
        · refine .inr ⟨m, by show t.ago + 1 ≤ i + 1; omega, ?_, ?_, ?_⟩
          · show Ok' s t.b m (i + 1 - (t.ago + 1))
            rw [show i + 1 - (t.ago + 1) = i - t.ago by omega]; exact g2
          · show (cm t.b s).testBit (i + 1 - (t.ago + 1)) = true
            rw [show i + 1 - (t.ago + 1) = i - t.ago by omega]; exact g3
          · show t.n + m = i + 1 - (t.ago + 1) + 1
            omega
      · exact ⟨by show bl t.b ≤ i + 1 + 1; omega, by show t.ago + 1 ≤ i + 1 + 1; omega⟩

/-- Of so long a row there is but one least rule; and a shorter one that says as much of the row's first part is none. -/
theorem massey_one {s c n N : Nat} (h : Ok' s c n N) (hl : ∀ c' n', Ok' s c' n' N → n ≤ n') {c' e M : Nat} (h' : Ok' s c' e M) (he : e < n) (hM : n + e < M + 1) (hMN : M ≤ N) : False := by
  -- the first place where it is wrong
  have key : ∀ k, M ≤ k → k ≤ N → Ok' s c' e k := by
    intro k
    induction k with
    | zero => intro h1 _; exact h'.less (by omega)
    | succ k ih =>
      intro h1 h2
      by_cases hk : M = k + 1
      · rw [← hk]; exact h'
      · have hk' := ih (by omega) (by omega)
        refine ⟨hk'.1, hk'.2.1, fun j j1 j2 => ?_⟩
        by_cases hj : j = k
        · subst hj
          cases hb : (cm c' s).testBit j with
          | false => rfl
          | true =>
            have := massey hk' (by omega) hb (h.less (show j + 1 ≤ N by omega))
            omega
        · exact hk'.2.2 j j1 (by omega)
  have := hl c' e (key N hMN (Nat.le_refl _))
  omega

theorem massey_unique {s c c' n N : Nat} (h : Ok' s c n N) (h' : Ok' s c' n N) (hl : ∀ c' n', Ok' s c' n' N → n ≤ n') (hN : 2 * n ≤ N) : c = c' := by
  rcases Decidable.em (c = c') with e | e
  · exact e
  exfalso
  have hne : c ^^^ c' ≠ 0 := fun h => e (xor_eq_zero.1 h)
  -- its lowest part
  have low : ∃ k, (c ^^^ c').testBit k = true ∧ ∀ i, i < k → (c ^^^ c').testBit i = false := by
    obtain ⟨k, hk⟩ : ∃ k, (c ^^^ c').testBit k = true := ⟨_, bl_top hne⟩
    induction k using Nat.strongRecOn with
    | _ k ih =>
      by_cases hex : ∃ i, i < k ∧ (c ^^^ c').testBit i = true
      · obtain ⟨i, hi, hi2⟩ := hex; exact ih i hi hi2
      · refine ⟨k, hk, fun i hi => ?_⟩
        cases hb : (c ^^^ c').testBit i with
        | false => rfl
        | true => exact absurd ⟨i, hi, hb⟩ hex
  obtain ⟨k, hk, hk2⟩ := low
  have hk0 : k ≠ 0 := by
    rintro rfl
    rw [Nat.testBit_xor, h.1, h'.1] at hk; cases hk
  have hblk := bl_of_testBit hk
  have hbl : bl (c ^^^ c') ≤ n + 1 := by have := bl_xor_le c c'; have := h.2.1; have := h'.2.1; omega
  have es : c ^^^ c' = ((c ^^^ c') >>> k) <<< k := by
    apply Nat.eq_of_testBit_eq
    intro i
    rw [Nat.testBit_shiftLeft, Nat.testBit_shiftRight]
    by_cases hi : k ≤ i
    · simp [hi]
    · rw [hk2 i (by omega)]; simp [hi]
  obtain ⟨d, hd⟩ : ∃ d, (c ^^^ c') >>> k = d := ⟨_, rfl⟩
  rw [hd] at es
  have hd0 : d ≠ 0 := by rintro rfl; rw [es] at hne; simp at hne
  have hdb : bl d + k ≤ n + 1 := by
    have := bl_shl hd0 k
    rw [← es] at this; omega
  have ok : Ok' s d (n - k) (N - k) := by
    refine ⟨by rw [← hd, Nat.testBit_shiftRight]; simpa using hk, by omega, fun j h1 h2 => ?_⟩
    have t1 := h.2.2 (j + k) (by omega) (by omega)
    have t2 := h'.2.2 (j + k) (by omega) (by omega)
    have t3 : (cm (c ^^^ c') s).testBit (j + k) = false := by rw [cm_xor_left, Nat.testBit_xor, t1, t2]; rfl
    rw [es, cm_shl_left, Nat.testBit_shiftLeft] at t3
    simpa using t3
  exact massey_one h hl ok (by omega) (by omega) (by omega)
end Go.Proofs.Ytbngamllllbfpaa.I
