/- Rows that go on by a rule. Plain Lean. -/
import Derived.Test.YtbngamllllbfpaaMassey2
namespace Go.Proofs.Ytbngamllllbfpaa.I

theorem go_take (p : Nat) (l : List Bool) {i k : Nat} (h : i ≤ k) : (go p l k).take (l.length + i) = go p l i := by
  induction k with
  | zero =>
    obtain rfl : i = 0 := by omega
    show l.take l.length = l
    exact List.take_of_length_le (Nat.le_refl _)
  | succ k ih =>
    by_cases e : i = k + 1
    · subst e
      rw [List.take_of_length_le (by rw [go_len]; omega)]
    · rw [go, List.take_append_of_le_length (by rw [go_len]; omega)]
      exact ih (by omega)

theorem od_take (p : Nat) (l : List Bool) (n i d : Nat) (h : i + d < n) : od p (l.take n) i d = od p l i d := by
  unfold od
  refine px_congr fun k hk => ?_
  congr 1
  simp only [List.getD_eq_getElem?_getD]
  rw [List.getElem?_take, if_pos (by omega)]

theorem od_top {p : Nat} (h : 2 ≤ bl p) (l : List Bool) (i : Nat) : od p l i (bl p - 1) = (od p l i (bl p - 2) ^^ l.getD (i + (bl p - 1)) false) := by
  have hp : p ≠ 0 := bl_pos.1 (by omega)
  have ht := bl_top hp
  unfold od
  rw [show bl p - 1 + 1 = (bl p - 2 + 1) + 1 by omega, px]
  congr 1
  rw [show bl p - 2 + 1 = bl p - 1 by omega, ht]
  simp

theorem go_get (p : Nat) (l : List Bool) {i k : Nat} (h : i < k) : (go p l k).getD (l.length + i) false = od p (go p l k) (l.length + i - (bl p - 1)) (bl p - 2) ∨ bl p < 2 ∨ l.length < bl p - 1 := by
  by_cases g : bl p < 2
  · exact .inr (.inl g)
  by_cases g2 : l.length < bl p - 1
  · exact .inr (.inr g2)
  left
  have e1 := go_take p l (show i + 1 ≤ k by omega)
  have e2 := go_take p l (show i ≤ k by omega)
  have e3 : (go p l k).getD (l.length + i) false = (go p l (i + 1)).getD (l.length + i) false := by
    rw [← e1]
    simp only [List.getD_eq_getElem?_getD]
    rw [List.getElem?_take, if_pos (by omega)]
  have e4 : go p l (i + 1) = go p l i ++ [od p (go p l i) ((go p l i).length - (bl p - 1)) (bl p - 2)] := rfl
  rw [e3, e4, go_len]
  have e5 : (go p l i ++ [od p (go p l i) (l.length + i - (bl p - 1)) (bl p - 2)]).getD (l.length + i) false = od p (go p l i) (l.length + i - (bl p - 1)) (bl p - 2) := by
    rw [List.getD_eq_getElem?_getD, List.getElem?_append_right (by rw [go_len]; omega), go_len]
    simp
  rw [e5, ← e2, od_take _ _ _ _ _ (by omega)]

theorem go_ru {p : Nat} (h : 2 ≤ bl p) {l : List Bool} (hl : l.length = bl p - 1) (k : Nat) : Ru (go p l k) p := by
  refine ⟨bl_pos.1 (by omega), fun i hi => ?_⟩
  rw [go_len] at hi
  rw [od_top h]
  rcases go_get p l (show i < k by omega) with e | e | e
  · rw [show i + (bl p - 1) = l.length + i by omega, e, show l.length + i - (bl p - 1) = i by omega, Bool.xor_self]
  · omega
  · omega

theorem go_of_ru {q : Nat} (h : 2 ≤ bl q) {L : List Bool} (hL : Ru L q) (hd : bl q - 1 ≤ L.length) : ∀ k, bl q - 1 + k ≤ L.length → go q (L.take (bl q - 1)) k = L.take (bl q - 1 + k)
  | 0, _ => rfl
  | k + 1, hk => by
    have ih := go_of_ru h hL hd k (by omega)
    have e := hL.2 k (by omega)
    rw [od_top h] at e
    rw [go, ih]
    have e2 : (L.take (bl q - 1 + k)).length = bl q - 1 + k := by simp; omega
    rw [e2, od_take _ _ _ _ _ (by omega), show bl q - 1 + k - (bl q - 1) = k by omega]
    have e3 : od q L k (bl q - 2) = L.getD (bl q - 1 + k) false := by
      rw [show k + (bl q - 1) = bl q - 1 + k by omega] at e
      cases h1 : od q L k (bl q - 2) <;> cases h2 : L.getD (bl q - 1 + k) false <;> simp_all
    rw [e3, ← Nat.add_assoc, take_snoc_getD' (by omega) false]
where
  take_snoc_getD' {α : Type} {xs : List α} {k : Nat} (hk : k < xs.length) (d : α) : xs.take (k + 1) = xs.take k ++ [xs.getD k d] := by
    rw [List.take_succ_eq_append_getElem hk]; simp [List.getD, hk]
end Go.Proofs.Ytbngamllllbfpaa.I
