/- Apart are the lists of which the cover is the sum of lengths: plain law. -/
import Derived.Test.YtlcnohmnemmbdaaSpan10
import Derived.Test.YtlcnohmnemmbdaaSpan11
namespace Go.Proofs.Ytlcnohmnemmbdaa.I
open Go
set_option linter.unusedVariables false
set_option linter.unusedSimpArgs false

theorem cnt_both (f g : Nat → Bool) : ∀ n, cnt (fun i => f i || g i) n + cnt (fun i => f i && g i) n = cnt f n + cnt g n
  | 0 => rfl
  | n + 1 => by
    have := cnt_both f g n
    unfold cnt
    cases f n <;> cases g n <;> simp <;> omega
theorem cnt_zero {f : Nat → Bool} : ∀ {n : Nat}, cnt f n = 0 → ∀ i, i < n → f i = false
  | 0, _, i, hi => by omega
  | n + 1, h, i, hi => by
    unfold cnt at h
    by_cases e : f n = true
    · rw [if_pos e] at h; omega
    · rw [if_neg e] at h
      by_cases c : i = n
      · rw [c]; simpa using e
      · exact cnt_zero (by omega) i (by omega)
theorem cnt_span (s : D2) {n : Nat} (h : s.b ≤ n) : cnt (fun i => decide (inS s i)) n = s.b - s.a := by
  have := cnt_add (f := fun _ => false) (g := fun i => decide (inS s i)) (lo := s.a) (hi := s.b) (n := n) (fun i _ => by rw [Bool.false_or]; rfl) fun _ _ _ => rfl
  rw [this, cnt_none fun _ _ => rfl, Nat.min_eq_right h, Nat.zero_add]
/-- Sum of lengths. -/
def sumL (l : List D2) : Nat := (l.map fun s => s.b - s.a).sum
theorem sumL_snoc (l : List D2) (s : D2) : sumL (l ++ [s]) = sumL l + (s.b - s.a) := by simp [sumL]
theorem meets_iff (s t : D2) : meets s t ↔ ∃ n, inS s n ∧ inS t n := by
  unfold meets inS
  constructor
  · rintro (h | h)
    · exact ⟨t.a, by omega⟩
    · exact ⟨s.a, by omega⟩
  · rintro ⟨n, h⟩; omega
theorem cov_sum (N : Nat) : ∀ l : List D2, (∀ s ∈ l, s.b ≤ N) → cnt (inU l) N ≤ sumL l ∧ (cnt (inU l) N = sumL l ↔ l.Pairwise fun s t => ¬ meets s t) := by
  refine snoc_ind ?_ ?_
  · intro _
    have : cnt (inU []) N = 0 := cnt_none fun _ _ => rfl
    exact ⟨by rw [this]; exact Nat.zero_le _, ⟨fun _ => .nil, fun _ => by rw [this]; rfl⟩⟩
  · intro l s ih h
    obtain ⟨h1, h2⟩ := ih fun x hx => h x (List.mem_append_left _ hx)
    have hs := h s (by simp)
    have e := cnt_both (inU l) (fun i => decide (inS s i)) N
    rw [cnt_span s hs, show cnt (fun i => inU l i || decide (inS s i)) N = cnt (inU (l ++ [s])) N from cnt_congr fun i _ => (inU_snoc l s i).symm] at e
    rw [sumL_snoc, List.pairwise_append]
    have z : cnt (fun i => inU l i && decide (inS s i)) N = 0 ↔ ∀ x ∈ l, ∀ y ∈ [s], ¬ meets x y := by
      constructor
      · intro g x hx y hy m
        rw [List.mem_singleton.1 hy] at m
        obtain ⟨n, m1, m2⟩ := (meets_iff x s).1 m
        have := cnt_zero g n (by have := m2.2; omega)
        rw [inU_iff.2 ⟨x, hx, m1⟩, decide_eq_true m2] at this
        cases this
      · intro g
        refine cnt_none fun i _ => ?_
        rw [Bool.and_eq_false_iff]
        by_cases c : inS s i
        · left
          rw [inU_no]
          exact fun x hx m => g x hx s (by simp) ((meets_iff x s).2 ⟨i, m, c⟩)
        · right; exact decide_eq_false c
    refine ⟨by omega, fun g => ?_, fun g => ?_⟩
    · exact ⟨h2.1 (by omega), List.pairwise_singleton _ _, z.1 (by omega)⟩
    · have a1 := h2.2 g.1
      have a2 := z.2 g.2.2
      omega
theorem covr_sum {l : List D2} : covr l = sumL l ↔ l.Pairwise fun s t => ¬ meets s t := by
  rw [covr_eq (N := topB l) le_topB]
  exact (cov_sum (topB l) l le_topB).2
theorem covr_le_sum (l : List D2) : covr l ≤ sumL l := by
  rw [covr_eq (N := topB l) le_topB]
  exact (cov_sum (topB l) l le_topB).1
/-- How many have a place. -/
def hadN (n : Nat) (l : List D2) : Nat := l.countP fun s => decide (s.a ≤ n ∧ n < s.b)
theorem had_le {l : List D2} (h : l.Pairwise fun s t => ¬ meets s t) (n : Nat) : hadN n l ≤ 1 := by
  unfold hadN
  induction h with
  | nil => simp
  | @cons x l hx hl ih =>
    rw [List.countP_cons]
    by_cases c : x.a ≤ n ∧ n < x.b
    · have : l.countP (fun s => decide (s.a ≤ n ∧ n < s.b)) = 0 := by
        rw [List.countP_eq_zero]
        intro y hy g
        have g' : y.a ≤ n ∧ n < y.b := by simpa using g
        exact hx y hy ((meets_iff x y).2 ⟨n, c, g'⟩)
      rw [this]; simp; split <;> omega
    · rw [if_neg (by simpa using c)]; omega
/-- Those that stand there twice have no place, where no two meet. -/
theorem look_count (k : D2) : ∀ (l : List D2) (m : List (D2 × Int)), lookD k (countM l m) = lookD k m + (l.countP fun s => s == k : Nat)
  | [], m => by simp [countM]
  | s :: l, m => by
    rw [countM, look_count k l, List.countP_cons]
    unfold lookD
    rw [look_put]
    by_cases e : k = s
    · subst e; simp; omega
    · rw [if_neg e]
      have : (s == k) = false := by simpa using Ne.symm e
      rw [this]; simp
theorem pick_mem : ∀ (l : List D2) (m : List (D2 × Int)) (x : D2), x ∈ (pickM l m).1 → x ∈ l ∧ 1 < lookD x m
  | [], _, x, h => by simp [pickM] at h
  | s :: l, m, x, h => by
    unfold pickM at h
    split at h
    · rename_i c
      rcases List.mem_cons.1 h with rfl | h
      · exact ⟨List.mem_cons_self, c⟩
      · obtain ⟨h1, h2⟩ := pick_mem l _ x h
        refine ⟨List.mem_cons_of_mem _ h1, ?_⟩
        unfold lookD at h2 ⊢
        rw [look_put] at h2
        split at h2
        · simp at h2
        · exact h2
    · obtain ⟨h1, h2⟩ := pick_mem l _ x h
      exact ⟨List.mem_cons_of_mem _ h1, h2⟩
theorem twice_count {l : List D2} {x : D2} (h : x ∈ twice l) : x ∈ l ∧ 1 < l.countP fun s => s == x := by
  obtain ⟨h1, h2⟩ := pick_mem l _ x h
  rw [look_count] at h2
  refine ⟨h1, ?_⟩
  simp only [lookD, look, Option.getD_none] at h2
  omega
theorem twice_emp {l : List D2} (hp : l.Pairwise fun s t => ¬ meets s t) {x : D2} (h : x ∈ twice l) : x.b - x.a = 0 := by
  obtain ⟨_, h2⟩ := twice_count h
  by_cases c : x.b - x.a = 0
  · exact c
  · have h3 := had_le hp x.a
    unfold hadN at h3
    have : (l.countP fun s => s == x) ≤ l.countP fun s => decide (s.a ≤ x.a ∧ x.a < s.b) := List.countP_mono_left fun y _ g => by
      have : y = x := by simpa using g
      subst this
      simp; omega
    omega
end Go.Proofs.Ytlcnohmnemmbdaa.I
