/- Runs of spans merged in place: the plain law. -/
import Derived.Test.YtlcnohmnemmbdaaSpan5
namespace Go.Proofs.Ytlcnohmnemmbdaa.I
open Go
set_option maxRecDepth 10000
set_option linter.unusedSimpArgs false
set_option linter.unusedVariables false

theorem Mix.seg {m n : List D2} {lo hi : Nat} (h : Mix m n lo hi) (h1 : lo ≤ hi) (h2 : hi ≤ m.length) {p : Nat} (hp : lo ≤ p) (hp' : p < hi) : ∃ q, lo ≤ q ∧ q < hi ∧ n.getD p z2 = m.getD q z2 := by
  have hl := h.len
  have parts : ∀ l : List D2, hi ≤ l.length → l = l.take lo ++ ((l.take hi).drop lo ++ l.drop hi) := fun l _ => by
    have a1 : l = l.take hi ++ l.drop hi := (List.take_append_drop _ _).symm
    have a2 : l.take hi = l.take lo ++ (l.take hi).drop lo := by
      have := (List.take_append_drop lo (l.take hi)).symm
      rwa [List.take_take, Nat.min_eq_left h1] at this
    rw [← List.append_assoc, ← a2, ← a1]
  have e1 : n.take lo = m.take lo := by
    refine ext2 (by simp; omega) fun q => ?_
    by_cases c : q < lo
    · have := h.2 q (.inl c)
      simpa [List.getD_eq_getElem?_getD, List.getElem?_take, c] using this
    · simp [List.getD_eq_getElem?_getD, List.getElem?_take, c]
  have e2 : n.drop hi = m.drop hi := by
    refine ext2 (by simp; omega) fun q => ?_
    have := h.2 (hi + q) (.inr (by omega))
    simpa [List.getD_eq_getElem?_getD, List.getElem?_drop] using this
  have hp1 := h.1
  rw [parts n (by omega), parts m h2, e1, e2] at hp1
  have hp2 := (List.perm_append_right_iff _).1 ((List.perm_append_left_iff _).1 hp1)
  have mem : n.getD p z2 ∈ (n.take hi).drop lo := by
    rw [List.mem_iff_getElem]
    refine ⟨p - lo, by simp; omega, ?_⟩
    simp [List.getD_eq_getElem?_getD, show p < n.length by omega, show lo + (p - lo) = p by omega]
  obtain ⟨q, hq, e⟩ := List.mem_iff_getElem.1 (hp2.mem_iff.1 mem)
  simp at hq
  refine ⟨lo + q, by omega, by omega, ?_⟩
  rw [← e]
  simp [List.getD_eq_getElem?_getD, show lo + q < m.length by omega]

theorem rota_srt {n : List D2} {a s m e b : Nat} (h1 : a ≤ s) (h2 : s ≤ m) (h3 : m ≤ e) (h4 : e ≤ b) (h5 : b ≤ n.length) (S1 : Srt n a m) (S2 : Srt n m b)
    (A : ∀ x y, a ≤ x → x < s → m ≤ y → y < e → (n.getD x z2).a ≤ (n.getD y z2).a)
    (B : ∀ y u, m ≤ y → y < e → s ≤ u → u < m → (n.getD y z2).a ≤ (n.getD u z2).a)
    (C : ∀ u v, a ≤ u → u < m → e ≤ v → v < b → (n.getD u z2).a ≤ (n.getD v z2).a) : Srt (rota n s m e) a b := by
  intro p q hp hpq hq
  rw [rota_getD h2 h3 (by omega), rota_getD h2 h3 (by omega)]
  by_cases p1 : p < s
  · rw [if_neg (by omega), if_neg (by omega)]
    by_cases q1 : q < s
    · rw [if_neg (by omega), if_neg (by omega)]; exact S1 p q hp hpq (by omega)
    by_cases q2 : q < s + (e - m)
    · rw [if_pos (by omega)]; exact A _ _ hp p1 (by omega) (by omega)
    rw [if_neg (by omega)]
    by_cases q3 : q < e
    · rw [if_pos (by omega)]; exact S1 _ _ hp (by omega) (by omega)
    rw [if_neg (by omega)]; exact C _ _ hp (by omega) (by omega) hq
  by_cases p2 : p < s + (e - m)
  · rw [if_pos (by omega)]
    by_cases q2 : q < s + (e - m)
    · rw [if_pos (by omega)]; exact S2 _ _ (by omega) (by omega) (by omega)
    rw [if_neg (by omega)]
    by_cases q3 : q < e
    · rw [if_pos (by omega)]; exact B _ _ (by omega) (by omega) (by omega) (by omega)
    rw [if_neg (by omega)]; exact S2 _ _ (by omega) (by omega) hq
  by_cases p3 : p < e
  · rw [if_neg (by omega), if_pos (by omega), if_neg (by omega)]
    by_cases q3 : q < e
    · rw [if_pos (by omega)]; exact S1 _ _ (by omega) (by omega) (by omega)
    rw [if_neg (by omega)]; exact C _ _ (by omega) (by omega) (by omega) hq
  rw [if_neg (by omega), if_neg (by omega), if_neg (by omega), if_neg (by omega)]
  exact S2 _ _ (by omega) hpq hq
theorem rota_no {n : List D2} {s m e : Nat} (h2 : s ≤ m) (h3 : m ≤ e) (h5 : e ≤ n.length) (h : s = m ∨ m = e) : rota n s m e = n :=
  ext2 (rota_perm h2 h3 h5).length_eq fun p => by
    rw [rota_getD h2 h3 h5]
    repeat' split
    all_goals first | rfl | omega | (congr 1; omega)
/-- What is found: from where on the second run's are less. -/
structure Cut (n : List D2) (a m b mid s : Nat) : Prop where
  r : a ≤ s ∧ s ≤ m ∧ s ≤ mid ∧ m ≤ mid + m - s ∧ mid + m - s ≤ b ∧ mid ≤ mid + m - s
  lo : ∀ x v, a ≤ x → x < s → mid + m - s ≤ v → v < b → (n.getD x z2).a ≤ (n.getD v z2).a
  hi : ∀ y u, m ≤ y → y < mid + m - s → s ≤ u → u < m → (n.getD y z2).a ≤ (n.getD u z2).a
theorem Cut.of {n : List D2} {a m b mid s s0 r0 : Nat} (h1 : a + 2 ≤ m) (h2 : m + 2 ≤ b) (hm : mid = (a + b) / 2) (S1 : Srt n a m) (S2 : Srt n m b)
    (h0 : (mid < m ∧ s0 = mid + m - b ∧ r0 = mid) ∨ (m ≤ mid ∧ s0 = a ∧ r0 = m)) (hs : s0 ≤ s ∧ s ≤ r0)
    (f : ∀ c, s0 ≤ c → c < s → (n.getD c z2).a ≤ (n.getD (mid + m - 1 - c) z2).a) (g : ∀ c, s ≤ c → c < r0 → (n.getD (mid + m - 1 - c) z2).a < (n.getD c z2).a) : Cut n a m b mid s := by
  refine ⟨by omega, fun x v hx hx' hv hv' => ?_, fun y u hy hy' hu hu' => ?_⟩
  · have k1 := f (s - 1) (by omega) (by omega)
    rw [show mid + m - 1 - (s - 1) = mid + m - s by omega] at k1
    have k2 : (n.getD x z2).a ≤ (n.getD (s - 1) z2).a := by
      by_cases c : x = s - 1
      · rw [c]; exact Nat.le_refl _
      · exact S1 x (s - 1) hx (by omega) (by omega)
    have k3 : (n.getD (mid + m - s) z2).a ≤ (n.getD v z2).a := by
      by_cases c : v = mid + m - s
      · rw [c]; exact Nat.le_refl _
      · exact S2 _ v (by omega) (by omega) hv'
    omega
  · have k1 := g s (Nat.le_refl _) (by omega)
    have k2 : (n.getD y z2).a ≤ (n.getD (mid + m - 1 - s) z2).a := by
      by_cases c : y = mid + m - 1 - s
      · rw [c]; exact Nat.le_refl _
      · exact S2 y _ hy (by omega) (by omega)
    have k3 : (n.getD s z2).a ≤ (n.getD u z2).a := by
      by_cases c : u = s
      · rw [c]; exact Nat.le_refl _
      · exact S1 s u (by omega) (by omega) hu'
    omega
theorem Srt.mono {n : List D2} {a b c d : Nat} (h : Srt n a b) (h1 : a ≤ c) (h2 : d ≤ b) : Srt n c d := fun p q hp hpq hq => h p q (by omega) hpq (by omega)
theorem Srt.off {m n : List D2} {lo hi a b : Nat} (h : Mix m n lo hi) (S : Srt m a b) (g : b ≤ lo ∨ hi ≤ a) : Srt n a b := fun p q hp hpq hq => by
  rw [h.2 p (by omega), h.2 q (by omega)]; exact S p q hp hpq hq
section
variable {n : List D2} {a m b mid s : Nat} (h : Cut n a m b mid s) (hb : b ≤ n.length) (S1 : Srt n a m) (S2 : Srt n m b)
include h hb S1 S2
theorem Cut.parts : Srt (rota n s m (mid + m - s)) a s ∧ Srt (rota n s m (mid + m - s)) s mid ∧ Srt (rota n s m (mid + m - s)) mid (mid + m - s) ∧ Srt (rota n s m (mid + m - s)) (mid + m - s) b := by
  obtain ⟨h1, h2, h3, h4, h5, h6⟩ := h.r
  refine ⟨fun p q hp hpq hq => ?_, fun p q hp hpq hq => ?_, fun p q hp hpq hq => ?_, fun p q hp hpq hq => ?_⟩ <;> rw [rota_getD h2 h4 (by omega), rota_getD h2 h4 (by omega)]
  · rw [if_neg (by omega), if_neg (by omega), if_neg (by omega), if_neg (by omega)]; exact S1 p q hp hpq (by omega)
  · rw [if_pos (by omega), if_pos (by omega)]; exact S2 _ _ (by omega) (by omega) (by omega)
  · rw [if_neg (by omega), if_pos (by omega), if_neg (by omega), if_pos (by omega)]; exact S1 _ _ (by omega) (by omega) (by omega)
  · rw [if_neg (by omega), if_neg (by omega), if_neg (by omega), if_neg (by omega)]; exact S2 p q (by omega) hpq hq
theorem Cut.cross {p q : Nat} (hp : a ≤ p) (hp' : p < mid) (hq : mid ≤ q) (hq' : q < b) : ((rota n s m (mid + m - s)).getD p z2).a ≤ ((rota n s m (mid + m - s)).getD q z2).a := by
  obtain ⟨h1, h2, h3, h4, h5, h6⟩ := h.r
  rw [rota_getD h2 h4 (by omega), rota_getD h2 h4 (by omega)]
  by_cases c1 : p < s
  · rw [if_neg (by omega), if_neg (by omega), if_neg (by omega)]
    by_cases c2 : q < mid + m - s
    · rw [if_pos (by omega)]; exact S1 _ _ hp (by omega) (by omega)
    · rw [if_neg (by omega)]; exact h.lo _ _ hp c1 (by omega) hq'
  · rw [if_pos (by omega), if_neg (by omega)]
    by_cases c2 : q < mid + m - s
    · rw [if_pos (by omega)]; exact h.hi _ _ (by omega) (by omega) (by omega) (by omega)
    · rw [if_neg (by omega)]; exact S2 _ _ (by omega) (by omega) hq'
theorem Cut.fin (ha : a ≤ mid) (hm : mid ≤ b) {n2 n3 : List D2} (M2 : Mix (rota n s m (mid + m - s)) n2 a mid) (T2 : Srt n2 a mid) (M3 : Mix n2 n3 mid b) (T3 : Srt n3 mid b) : Mix n n3 a b ∧ Srt n3 a b := by
  obtain ⟨h1, h2, h3, h4, h5, h6⟩ := h.r
  have M1 : Mix n (rota n s m (mid + m - s)) a b := (rota_mix h2 h4 (by omega)).wide h1 h5
  have l1 := M1.len
  have l2 := M2.len
  refine ⟨(M1.trans (M2.wide (Nat.le_refl _) hm)).trans (M3.wide ha (Nat.le_refl _)), fun p q hp hpq hq => ?_⟩
  by_cases c1 : mid ≤ p
  · exact T3 p q c1 hpq hq
  by_cases c2 : q < mid
  · exact Srt.off M3 T2 (.inl (Nat.le_refl _)) p q hp hpq c2
  obtain ⟨p', hp1, hp2, ep⟩ := M2.seg ha (by omega) hp (by omega : p < mid)
  obtain ⟨q', hq1, hq2, eq⟩ := M3.seg hm (by omega) (by omega : mid ≤ q) hq
  rw [M3.2 p (.inl (by omega)), ep, eq, M2.2 q' (.inr hq1)]
  exact h.cross hb S1 S2 hp1 hp2 hq1 hq2
end
end Go.Proofs.Ytlcnohmnemmbdaa.I
