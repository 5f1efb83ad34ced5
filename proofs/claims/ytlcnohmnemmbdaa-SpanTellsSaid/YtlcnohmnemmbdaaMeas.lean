/- How many places a list of spans has: plain numbers. -/
import Derived.Test.YtlcnohmnemmbdaaG4
namespace Go.Proofs.Ytlcnohmnemmbdaa.I
set_option linter.unusedVariables false
set_option linter.unusedSimpArgs false

/-- How many below a bound are so. -/
def cnt (f : Nat → Bool) : Nat → Nat
  | 0 => 0
  | n + 1 => cnt f n + (if f n = true then 1 else 0)
theorem cnt_le (f : Nat → Bool) : ∀ n, cnt f n ≤ n
  | 0 => Nat.le_refl _
  | n + 1 => by have := cnt_le f n; unfold cnt; split <;> omega
theorem cnt_congr {f g : Nat → Bool} : ∀ {n : Nat}, (∀ i, i < n → f i = g i) → cnt f n = cnt g n
  | 0, _ => rfl
  | n + 1, h => by unfold cnt; rw [cnt_congr fun i hi => h i (by omega), h n (by omega)]
theorem cnt_up {f : Nat → Bool} {m : Nat} : ∀ {n : Nat}, m ≤ n → (∀ i, m ≤ i → f i = false) → cnt f n = cnt f m
  | 0, h, _ => by rw [show m = 0 by omega]
  | n + 1, h, g => by
    by_cases e : m = n + 1
    · rw [e]
    · rw [show cnt f (n + 1) = cnt f n + (if f n = true then 1 else 0) from rfl, g n (by omega), cnt_up (by omega) g]; simp
theorem cnt_none {f : Nat → Bool} : ∀ {n : Nat}, (∀ i, i < n → f i = false) → cnt f n = 0
  | 0, _ => rfl
  | n + 1, h => by unfold cnt; rw [h n (by omega), cnt_none fun i hi => h i (by omega)]; rfl
/-- Places that are added: so many more. -/
theorem cnt_add {f g : Nat → Bool} {lo hi : Nat} : ∀ {n : Nat}, (∀ i, i < n → g i = (f i || decide (lo ≤ i ∧ i < hi))) → (∀ i, lo ≤ i → i < hi → f i = false) → cnt g n = cnt f n + (min n hi - lo)
  | 0, _, _ => by simp [cnt]
  | n + 1, h, d => by
    unfold cnt
    rw [cnt_add (n := n) (fun i hi => h i (by omega)) d, h n (by omega)]
    by_cases c : lo ≤ n ∧ n < hi
    · rw [d n c.1 c.2, decide_eq_true c]; simp; omega
    · rw [decide_eq_false c, Bool.or_false]
      have : min (n + 1) hi - lo = min n hi - lo := by omega
      rw [this]; omega
def inS (s : D2) (n : Nat) : Prop := s.a ≤ n ∧ n < s.b
instance (s : D2) (n : Nat) : Decidable (inS s n) := by unfold inS; infer_instance
def inU (l : List D2) (n : Nat) : Bool := l.any fun s => decide (inS s n)
theorem inU_iff {l : List D2} {n : Nat} : inU l n = true ↔ ∃ s ∈ l, inS s n := by simp [inU]
theorem inU_no {l : List D2} {n : Nat} : inU l n = false ↔ ∀ s ∈ l, ¬ inS s n := by simp [inU]
theorem inU_snoc (l : List D2) (s : D2) (n : Nat) : inU (l ++ [s]) n = (inU l n || decide (inS s n)) := by simp [inU]
def topB (l : List D2) : Nat := l.foldr (fun s m => max s.b m) 0
theorem topB_le {l : List D2} {N : Nat} (h : ∀ s ∈ l, s.b ≤ N) : topB l ≤ N := by
  induction l with
  | nil => exact Nat.zero_le _
  | cons x l ih => 
    have h1 := h x List.mem_cons_self
    have h2 := ih fun s hs => h s (List.mem_cons_of_mem _ hs)
    show max x.b (topB l) ≤ N; omega
theorem le_topB {l : List D2} : ∀ s ∈ l, s.b ≤ topB l := by
  induction l with
  | nil => intro s h; cases h
  | cons x l ih =>
    intro s hs
    show s.b ≤ max x.b (topB l)
    rcases List.mem_cons.1 hs with rfl | hs
    · omega
    · have := ih s hs; omega
theorem inU_top {l : List D2} {N : Nat} (h : ∀ s ∈ l, s.b ≤ N) (n : Nat) (hn : N ≤ n) : inU l n = false := inU_no.2 fun s hs ⟨_, g⟩ => by have := h s hs; omega
/-- How many places. -/
def covr (l : List D2) : Nat := cnt (inU l) (topB l)
theorem covr_eq {l : List D2} {N : Nat} (h : ∀ s ∈ l, s.b ≤ N) : covr l = cnt (inU l) N := (cnt_up (topB_le h) fun i hi => inU_top le_topB i hi).symm
theorem covr_le {l : List D2} {N : Nat} (h : ∀ s ∈ l, s.b ≤ N) : covr l ≤ N := by rw [covr_eq h]; exact cnt_le _ _
theorem covr_congr {l m : List D2} {N : Nat} (h : ∀ s ∈ l, s.b ≤ N) (h' : ∀ s ∈ m, s.b ≤ N) (g : ∀ n, inU l n = inU m n) : covr l = covr m := by
  rw [covr_eq h, covr_eq h']; exact cnt_congr fun i _ => g i
/-- What the program reckons, one by one. -/
def covF : List D2 → Nat × Nat → Nat × Nat
  | [], p => p
  | s :: l, (n, e) => covF l (n + (s.b - max s.a e), max e s.b)
theorem covF_snoc (l : List D2) (s : D2) : ∀ p, covF (l ++ [s]) p = ((covF l p).1 + (s.b - max s.a (covF l p).2), max (covF l p).2 s.b) := by
  induction l with
  | nil => intro p; rfl
  | cons x l ih => intro p; obtain ⟨n, e⟩ := p; exact ih _
theorem snoc_ind {P : List D2 → Prop} (h0 : P []) (h1 : ∀ l s, P l → P (l ++ [s])) : ∀ l, P l := by
  intro l
  have : ∀ n (l : List D2), l.length = n → P l := by
    intro n
    induction n with
    | zero => intro l hl; rw [List.eq_nil_of_length_eq_zero hl]; exact h0
    | succ n ih =>
      intro l hl
      have hne : l ≠ [] := by intro e; rw [e] at hl; cases hl
      rw [← List.dropLast_concat_getLast hne]
      exact h1 _ _ (ih _ (by simp; omega))
  exact this _ l rfl
theorem covF_ok : ∀ l : List D2, l.Pairwise (fun s t => s.a ≤ t.a) → (∀ s ∈ l, s.a < s.b) → (∀ N, (∀ s ∈ l, s.b ≤ N) → (covF l (0, 0)).1 = cnt (inU l) N) ∧ (∀ s ∈ l, s.b ≤ (covF l (0, 0)).2) ∧ ((covF l (0, 0)).2 = 0 ∨ ∃ s ∈ l, s.b = (covF l (0, 0)).2) := by
  refine snoc_ind ?_ ?_
  · intro _ _
    exact ⟨fun N _ => (cnt_none fun i _ => rfl).symm, (fun s hs => absurd hs List.not_mem_nil), .inl rfl⟩
  · intro l s ih hp hr
    rw [List.pairwise_append] at hp
    obtain ⟨h1, h2, h3⟩ := ih hp.1 fun x hx => hr x (List.mem_append_left _ hx)
    have hs := hr s (by simp)
    rw [covF_snoc]
    obtain ⟨⟨n, e⟩, hc⟩ : ∃ p, covF l (0, 0) = p := ⟨_, rfl⟩
    rw [hc] at h1 h2 h3 ⊢
    simp only at h1 h2 h3 ⊢
    refine ⟨fun N hN => ?_, fun x hx => ?_, ?_⟩
    · have hb : s.b ≤ N := hN s (by simp)
      rw [h1 N fun x hx => hN x (List.mem_append_left _ hx)]
      have key : ∀ i, s.a ≤ i → (inU l i = true ↔ i < e) := fun i hi => by
        rw [inU_iff]
        constructor
        · rintro ⟨x, hx, _, g⟩; have := h2 x hx; omega
        · intro g
          rcases h3 with h3 | ⟨x, hx, h3⟩
          · omega
          · have := hp.2.2 x hx s (by simp)
            exact ⟨x, hx, by omega, by omega⟩
      have := cnt_add (f := inU l) (g := inU (l ++ [s])) (lo := max s.a e) (hi := s.b) (n := N) (fun i hi => by
        rw [inU_snoc]
        by_cases c : s.a ≤ i
        · have k := key i c
          by_cases c2 : i < e
          · rw [k.2 c2]; simp
          · rw [show inU l i = false by rw [Bool.eq_false_iff]; exact fun h => c2 (k.1 h), Bool.false_or, Bool.false_or]
            exact decide_eq_decide.2 (by unfold inS; omega)
        · rw [decide_eq_false (fun h : inS s i => c h.1), decide_eq_false (by omega)]) (fun i hi _ => by
        rw [Bool.eq_false_iff]; intro h; have := (key i (by omega)).1 h; omega)
      rw [this, Nat.min_eq_right hb]
    · rcases List.mem_append.1 hx with hx | hx
      · have := h2 x hx; omega
      · rw [List.mem_singleton.1 hx]; omega
    · right
      by_cases c : e ≤ s.b
      · exact ⟨s, by simp, by omega⟩
      · rcases h3 with h3 | ⟨x, hx, h3⟩
        · omega
        · exact ⟨x, List.mem_append_left _ hx, by omega⟩
theorem covF_covr {l ys : List D2} (hp : ys.Pairwise (fun s t => s.a ≤ t.a)) (hr : ∀ s ∈ ys, s.a < s.b) (h : ∀ n, inU ys n = inU l n) : (covF ys (0, 0)).1 = covr l := by
  have N : ∃ N, (∀ s ∈ ys, s.b ≤ N) ∧ ∀ s ∈ l, s.b ≤ N := ⟨max (topB ys) (topB l), fun s hs => by have := le_topB s hs; omega, fun s hs => by have := le_topB s hs; omega⟩
  obtain ⟨N, h1, h2⟩ := N
  rw [(covF_ok ys hp hr).1 N h1, covr_eq h2]
  exact cnt_congr fun i _ => h i
end Go.Proofs.Ytlcnohmnemmbdaa.I
