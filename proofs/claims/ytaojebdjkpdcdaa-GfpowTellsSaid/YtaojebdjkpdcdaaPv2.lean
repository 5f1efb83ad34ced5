/- Words of sums and products. Plain Lean. -/
import Derived.Test.YtaojebdjkpdcdaaPv
import Derived.Test.YtaojebdjkpdcdaaGf2
namespace Go.Proofs.Ytaojebdjkpdcdaa.I

theorem add_shl_xor {a b m : Nat} (h : a < 2 ^ m) : a + 2 ^ m * b = a ^^^ b <<< m := by
  apply Nat.eq_of_testBit_eq
  intro j
  rw [Nat.add_comm, Nat.testBit_two_pow_mul_add b h, Nat.testBit_xor, Nat.testBit_shiftLeft]
  by_cases hj : j < m
  · have : ¬ m ≤ j := by omega
    simp [hj, this]
  · have h2 : m ≤ j := by omega
    have : a.testBit j = false := Nat.testBit_lt_two_pow (Nat.lt_of_lt_of_le h (Nat.pow_le_pow_right (by omega) (by omega)))
    simp [hj, this, h2]

theorem take_lt {xs : List Nat} (h : ∀ x ∈ xs, x < 18446744073709551616) (k : Nat) : ∀ x ∈ xs.take k, x < 18446744073709551616 := fun x hx => h x (List.mem_of_mem_take hx)

theorem pv_take_succ {xs : List Nat} (h : ∀ x ∈ xs, x < 18446744073709551616) {k : Nat} (hk : k < xs.length) : pv (xs.take (k + 1)) = pv (xs.take k) ^^^ (xs.getD k 0) <<< (64 * k) := by
  have e : xs.take (k + 1) = xs.take k ++ [xs.getD k 0] := by
    rw [List.take_succ_eq_append_getElem hk]
    simp [List.getD, hk]
  have hl : (xs.take k).length = k := by simp; omega
  rw [e, pv_append, hl, pv, pv, Nat.mul_zero, Nat.add_zero, add_shl_xor]
  have := pv_lt (take_lt h k)
  rwa [hl] at this

/-- So many words of a number. -/
def wds (n m : Nat) : List Nat := (List.range n).map (wdAt m)
theorem wds_len (n m : Nat) : (wds n m).length = n := by simp [wds]
theorem wds_getD (n m i : Nat) (h : i < n) : (wds n m).getD i 0 = wdAt m i := by simp [wds, List.getD, h]
theorem wds_take (n m : Nat) : (wds n m).take n = wds n m := by rw [List.take_of_length_le]; simp [wds]
theorem wds_zero (n : Nat) : List.replicate n 0 = wds n 0 := by
  apply List.ext_getElem
  · simp [wds]
  · intro i h1 h2; simp [wds, wdAt_zero_left]
theorem pv_wds {n m : Nat} (h : bl m ≤ 64 * n) : pv (wds n m) = m := pv_map (bl_lt.1 h) fun _ _ => rfl

theorem wdAt_shl_words (w i j : Nat) (hw : w < 18446744073709551616) : wdAt (w <<< (64 * j)) i = if i = j then w else 0 := by
  apply Nat.eq_of_testBit_eq
  intro k
  rw [testBit_wdAt, Nat.testBit_shiftLeft]
  by_cases hij : i = j
  · subst hij
    by_cases hk : k < 64
    · simp [hk]
    · have : w.testBit k = false := Nat.testBit_lt_two_pow (Nat.lt_of_lt_of_le hw (show 2 ^ 64 ≤ 2 ^ k from Nat.pow_le_pow_right (by omega) (by omega)))
      simp [hk, this]
  · simp only [hij, if_false, Nat.zero_testBit, Bool.and_eq_false_iff, decide_eq_false_iff_not]
    rcases Nat.lt_or_gt_of_ne hij with h | h
    · by_cases hk : k < 64
      · right; left; omega
      · left; exact hk
    · by_cases hk : k < 64
      · right; right
        exact Nat.testBit_lt_two_pow (Nat.lt_of_lt_of_le hw (show 2 ^ 64 ≤ _ from Nat.pow_le_pow_right (by omega) (by omega)))
      · left; exact hk

theorem wds_set (n m j w : Nat) (_ : j < n) (hw : w < 18446744073709551616) : (wds n m).set j (wdAt m j ^^^ w) = wds n (m ^^^ w <<< (64 * j)) := by
  apply List.ext_getElem
  · simp [wds]
  · intro i h1 h2
    simp only [wds, List.length_map, List.length_range, List.length_set] at h1 h2
    simp only [wds, List.getElem_set, List.getElem_map, List.getElem_range, wdAt_xor, wdAt_shl_words _ _ _ hw]
    by_cases e : j = i
    · subst e; simp
    · have : ¬ i = j := fun x => e x.symm
      simp [e, this]

theorem wds_upd {n m j w : Nat} (hj : j < n) (hw : w < 18446744073709551616) : (wds n m).set j ((wds n m).getD j 0 ^^^ w) = wds n (m ^^^ w <<< (64 * j)) := by
  rw [wds_getD _ _ _ hj, wds_set _ _ _ _ hj hw]

theorem shr_and (b k : Nat) : b >>> k &&& 1 = if b.testBit k then 1 else 0 := by
  rw [Nat.and_one_is_mod, Nat.shiftRight_eq_div_pow, Nat.testBit_eq_decide_div_mod_eq]
  simp only [decide_eq_true_eq]
  split <;> omega

/-! ### the product of two words -/

theorem mod_succ (b i : Nat) : b % 2 ^ (i + 1) = b % 2 ^ i ^^^ (if b.testBit i then 2 ^ i else 0) := by
  apply Nat.eq_of_testBit_eq
  intro j
  rw [Nat.testBit_xor, Nat.testBit_mod_two_pow, Nat.testBit_mod_two_pow]
  by_cases hb : b.testBit i = true
  · simp only [hb, if_true, Nat.testBit_two_pow]
    by_cases e : i = j
    · subst e; simp [hb]
    · have : (j < i + 1) ↔ (j < i) := by omega
      simp [e, this]
  · have hb' : b.testBit i = false := by simpa using hb
    simp only [hb', Bool.false_eq_true, if_false, Nat.zero_testBit, Bool.xor_false]
    by_cases e : i = j
    · subst e; simp [hb']
    · have : (j < i + 1) ↔ (j < i) := by omega
      simp [this]

theorem cm_mod_succ (a b i : Nat) : cm a (b % 2 ^ (i + 1)) = cm a (b % 2 ^ i) ^^^ (if b.testBit i then a <<< i else 0) := by
  rw [mod_succ, cm_xor_right]
  split
  · rw [cm_pow_right]
  · rw [cm_zero_right]

theorem hi_shl {a i : Nat} (ha : a < 18446744073709551616) (hi : i ≤ 64) : wdAt (a <<< i) 1 = a >>> (64 - i) := by
  have h1 : a <<< i / 2 ^ (64 * 1) = a >>> (64 - i) := by
    rw [Nat.shiftLeft_eq, Nat.shiftRight_eq_div_pow]
    have : (2 : Nat) ^ (64 * 1) = 2 ^ i * 2 ^ (64 - i) := by rw [← Nat.pow_add]; congr 1; omega
    rw [this, ← Nat.div_div_eq_div_mul, Nat.mul_div_cancel _ (Nat.pow_pos (by omega))]
  unfold wdAt
  rw [h1]
  apply Nat.mod_eq_of_lt
  exact Nat.lt_of_le_of_lt (by rw [Nat.shiftRight_eq_div_pow]; exact Nat.div_le_self _ _) ha
theorem lo_shl (a i : Nat) : wdAt (a <<< i) 0 = (a <<< i) % 18446744073709551616 := wdAt_zero _

theorem bl_cm_le (a b : Nat) : bl (cm a b) ≤ bl a + bl b := by
  by_cases ha : a = 0
  · subst ha; rw [cm_zero_left, bl_zero]; omega
  · by_cases hb : b = 0
    · subst hb; rw [cm_zero_right, bl_zero]; omega
    · have := bl_cm ha hb; omega

theorem two_words {n : Nat} (h : bl n ≤ 128) : n = wdAt n 0 ^^^ (wdAt n 1) <<< 64 := by
  have : n = pv (wds 2 n) := (pv_wds (by omega)).symm
  conv => lhs; rw [this]
  show pv [wdAt n 0, wdAt n 1] = _
  simp only [pv, Nat.mul_zero, Nat.add_zero]
  rw [show (18446744073709551616 : Nat) = 2 ^ 64 by rfl, add_shl_xor]
  exact wdAt_lt n 0

/-! ### up -/
theorem wdAt_shl (m n i : Nat) : wdAt (m <<< n) i =
    ((if n / 64 ≤ i then wdAt m (i - n / 64) else 0) <<< (n % 64)) % 18446744073709551616 ||| (if n / 64 + 1 ≤ i then wdAt m (i - n / 64 - 1) else 0) >>> (64 - n % 64) := by
  apply Nat.eq_of_testBit_eq
  intro k
  rw [testBit_wdAt, Nat.testBit_shiftLeft, Nat.testBit_or, show (18446744073709551616 : Nat) = 2 ^ 64 by rfl, Nat.testBit_mod_two_pow, Nat.testBit_shiftLeft, Nat.testBit_shiftRight]
  by_cases hk : k < 64
  · simp only [hk, decide_true, Bool.true_and]
    by_cases h1 : n % 64 ≤ k
    · have e2 : (if n / 64 + 1 ≤ i then wdAt m (i - n / 64 - 1) else 0).testBit (64 - n % 64 + k) = false := by
        split
        · rw [testBit_wdAt]; simp; omega
        · simp
      rw [e2, Bool.or_false]
      by_cases h2 : n / 64 ≤ i
      · have : n ≤ 64 * i + k := by omega
        simp only [h1, h2, this, if_true, decide_true, Bool.true_and, testBit_wdAt]
        rw [show 64 * (i - n / 64) + (k - n % 64) = 64 * i + k - n by omega]
        have : k - n % 64 < 64 := by omega
        simp [this]
      · have : ¬ n ≤ 64 * i + k := by omega
        simp [h2, this]
    · simp only [h1, decide_false, Bool.false_and, Bool.false_or]
      by_cases h2 : n / 64 + 1 ≤ i
      · have : n ≤ 64 * i + k := by omega
        simp only [h2, this, if_true, decide_true, Bool.true_and, testBit_wdAt]
        rw [show 64 * (i - n / 64 - 1) + (64 - n % 64 + k) = 64 * i + k - n by omega]
        have : 64 - n % 64 + k < 64 := by omega
        simp [this]
      · have : ¬ n ≤ 64 * i + k := by omega
        simp [h2, this]
  · simp only [hk, decide_false, Bool.false_and, Bool.false_or]
    split
    · rw [testBit_wdAt]; simp; omega
    · simp
end Go.Proofs.Ytaojebdjkpdcdaa.I
