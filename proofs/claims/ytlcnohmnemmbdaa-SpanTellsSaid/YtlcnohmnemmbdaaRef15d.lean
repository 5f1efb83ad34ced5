/- The reference of layer 15: Cover. -/
import Derived.Test.YtlcnohmnemmbdaaRef15w
namespace Go.Proofs.Ytlcnohmnemmbdaa.I
open Go
open Nat renaming reduceEqDiff → kn1, reduceBEq → kn2, reducePow → kn3, reduceMod → kn4, reduceAdd → kn5, reduceSub → kn6, reduceMul → kn7, reduceDiv → kn8, reduceLeDiff → kn9, reduceLT → kn0, zero_lt_one → kq1, zero_add → kq2, zero_le → kq3, le_refl → kq4
open Int renaming reduceToNat → kz1, reduceAdd → kz2, reduceSub → kz3, reduceMul → kz4, reduceDiv → kz5, reduceMod → kz6, reduceLE → kz7, reduceLT → kz8, reduceNeg → kz9, reduceEq → kz0
set_option maxRecDepth 10000
set_option linter.unusedSimpArgs false
set_option linter.unusedVariables false

theorem cnt_or {f g h : Nat → Bool} : ∀ {n : Nat}, (∀ i, i < n → h i = (f i || g i)) → (∀ i, i < n → ¬ (f i = true ∧ g i = true)) → cnt h n = cnt f n + cnt g n
  | 0, _, _ => rfl
  | n + 1, e, d => by
    unfold cnt
    rw [cnt_or (n := n) (fun i hi => e i (by omega)) fun i hi => d i (by omega), e n (by omega)]
    have := d n (by omega)
    cases hf : f n <;> cases hg : g n <;> simp_all <;> omega
theorem less1_in {s t x : D2} (h : x ∈ less1 s t) : s.a ≤ x.a ∧ x.b ≤ s.b := by
  unfold less1 at h
  by_cases m : meets s t
  · rw [if_neg (not_not_intro m)] at h
    unfold meets at m
    by_cases c1 : s.a < t.a <;> by_cases c2 : t.b < s.b <;> simp [c1, c2] at h
    · rcases h with rfl | rfl <;> simp only <;> omega
    · subst h; simp only; omega
    · subst h; simp only; omega
  · rw [if_pos m] at h
    rw [List.mem_singleton.1 h]; omega
theorem not_meets_sub {s t x y : D2} (h : ¬ meets s t) (hx : s.a ≤ x.a ∧ x.b ≤ s.b) (hy : t.a ≤ y.a ∧ y.b ≤ t.b) : ¬ meets x y := by
  intro m
  obtain ⟨n, ⟨a1, a2⟩, b1, b2⟩ := (meets_iff x y).1 m
  exact h ((meets_iff s t).2 ⟨n, ⟨by omega, by omega⟩, by omega, by omega⟩)
theorem less1_pw (s t : D2) : (less1 s t).Pairwise fun x y => ¬ meets x y := by
  unfold less1
  by_cases m : meets s t
  · rw [if_neg (not_not_intro m)]
    have m' := m
    unfold meets at m'
    by_cases c1 : s.a < t.a <;> by_cases c2 : t.b < s.b <;> simp [c1, c2]
    unfold meets; simp only; omega
  · rw [if_pos m]; exact List.pairwise_singleton _ _
theorem lessL_pw {l : List D2} (t : D2) (h : l.Pairwise fun x y => ¬ meets x y) : (lessL l t).Pairwise fun x y => ¬ meets x y := by
  unfold lessL
  induction h with
  | nil => exact .nil
  | @cons x l hx hl ih =>
    rw [List.flatMap_cons, List.pairwise_append]
    refine ⟨less1_pw x t, ih, fun p hp q hq => ?_⟩
    obtain ⟨y, hy, hq⟩ := List.mem_flatMap.1 hq
    exact not_meets_sub (hx y hy) (less1_in hp) (less1_in hq)
/-- Does the other one lie within? -/
def innr (s t : D2) : Prop := meets s t ∧ s.a < t.a ∧ t.b < s.b
instance (s t : D2) : Decidable (innr s t) := by unfold innr; infer_instance
theorem less1_one {s t : D2} (h : ¬ innr s t) : (less1 s t).length ≤ 1 := by
  unfold less1
  unfold innr at h
  by_cases m : meets s t
  · rw [if_neg (not_not_intro m)]
    by_cases c1 : s.a < t.a <;> by_cases c2 : t.b < s.b <;> simp [c1, c2]
    exact h ⟨m, c1, c2⟩
  · rw [if_pos m]; simp
theorem lessL_one {l : List D2} {t : D2} (h : ∀ s ∈ l, ¬ innr s t) : (lessL l t).length ≤ l.length := by
  unfold lessL
  induction l with
  | nil => simp
  | cons x l ih =>
    have h1 := less1_one (h x List.mem_cons_self)
    have h2 := ih fun s hs => h s (List.mem_cons_of_mem _ hs)
    rw [List.flatMap_cons, List.length_append, List.length_cons]; omega
theorem lessL_more {l : List D2} (t : D2) (h : l.Pairwise fun x y => ¬ meets x y) : (lessL l t).length ≤ l.length + 1 := by
  induction h with
  | nil => simp [lessL]
  | @cons x l hx hl ih =>
    have e : lessL (x :: l) t = less1 x t ++ lessL l t := rfl
    rw [e, List.length_append, List.length_cons]
    by_cases c : innr x t
    · have h1 : (less1 x t).length ≤ 2 := less1_len x t
      have h2 : (lessL l t).length ≤ l.length := lessL_one fun s hs d => hx s hs (by
        unfold innr meets at c d; unfold meets; omega)
      omega
    · have := less1_one c; omega
/-- What is left of a span without others. -/
def leftL (l : List D2) (s : D2) : List D2 := l.foldl lessL (if s.a ≤ s.b then [s] else [])
theorem leftL_snoc (l : List D2) (s t : D2) : leftL (l ++ [t]) s = lessL (leftL l s) t := by unfold leftL; rw [List.foldl_append]; rfl
theorem leftL_ok (s : D2) : ∀ l : List D2, (leftL l s).Pairwise (fun x y => ¬ meets x y) ∧ (leftL l s).length ≤ l.length + 1 ∧ (∀ x ∈ leftL l s, s.a ≤ x.a ∧ x.b ≤ s.b) ∧ ∀ n, inU (leftL l s) n = (decide (inS s n) && !inU l n) := by
  refine snoc_ind ?_ ?_
  · unfold leftL
    by_cases c : s.a ≤ s.b
    · rw [List.foldl_nil, if_pos c]
      refine ⟨List.pairwise_singleton _ _, Nat.le_refl _, fun x hx => by rw [List.mem_singleton.1 hx]; omega, fun n => by simp [inU]⟩
    · rw [List.foldl_nil, if_neg c]
      refine ⟨.nil, Nat.zero_le _, fun x hx => absurd hx List.not_mem_nil, fun n => ?_⟩
      rw [show decide (inS s n) = false from decide_eq_false (by unfold inS; omega)]; rfl
  · rintro l t ⟨h1, h2, h3, h4⟩
    rw [leftL_snoc]
    refine ⟨lessL_pw t h1, ?_, fun x hx => ?_, fun n => ?_⟩
    · have := lessL_more t h1; rw [List.length_append, List.length_singleton]; omega
    · obtain ⟨y, hy, hx⟩ := List.mem_flatMap.1 hx
      have := h3 y hy
      have := less1_in hx
      omega
    · rw [lessL_has, h4, inU_snoc]
      cases decide (inS s n) <;> cases inU l n <;> cases decide (inS t n) <;> rfl
theorem covr_step {l : List D2} {s : D2} {N : Nat} (h : ∀ x ∈ l, x.b ≤ N) (hs : s.b ≤ N) : covr (l ++ [s]) = covr l + sumL (leftL l s) := by
  obtain ⟨h1, _, h3, h4⟩ := leftL_ok s l
  have hl : ∀ x ∈ leftL l s, x.b ≤ N := fun x hx => Nat.le_trans (h3 x hx).2 hs
  rw [← covr_sum.2 h1, covr_eq (N := N) h, covr_eq hl, covr_eq (N := N) (fun x hx => by
    rcases List.mem_append.1 hx with hx | hx
    · exact h x hx
    · rw [List.mem_singleton.1 hx]; exact hs)]
  refine cnt_or (fun i _ => ?_) fun i _ => ?_
  · rw [h4, inU_snoc]
    cases decide (inS s i) <;> cases inU l i <;> rfl
  · rw [h4]
    cases decide (inS s i) <;> cases inU l i <;> simp
theorem sumL_take (l : List D2) (k : Nat) : sumL (l.take k) ≤ sumL l := by
  have : sumL l = sumL (l.take k) + sumL (l.drop k) := by
    unfold sumL
    rw [← List.sum_append, ← List.map_append, List.take_append_drop]
  omega
@[go_sem] noncomputable def c_ref15_Cover : Cn := fn1 (tL t2) (fun l => l.length ≤ 1000) fun l => vW (covr l)
noncomputable def cx_ref15_Cover : Cx := { T := T, E := E, cs := [(14, c_ref15_Right), (16, c_ref15_Len), (39, c_ref01_Add), (44, c_ref15_without)], sch := [(15, false, .take 0 (.take 1 (.take 2 (.take 3 (.take 4 (.alt 5 (.alt 6 (.take 7 (.take 8 (.take 9 (.alt 10 (.done) .no)))) .no) .no))))))], ob := [], qs := [14, 16, 39, 44] }
@[go_sem] theorem cx_ref15_Cover_e : cx_ref15_Cover.gs = none ∧ cx_ref15_Cover.md = 0 ∧ cx_ref15_Cover.T = T ∧ cx_ref15_Cover.E = E ∧ cx_ref15_Cover.cs = [(14, c_ref15_Right), (16, c_ref15_Len), (39, c_ref01_Add), (44, c_ref15_without)] ∧ cx_ref15_Cover.sch = [(15, false, .take 0 (.take 1 (.take 2 (.take 3 (.take 4 (.alt 5 (.alt 6 (.take 7 (.take 8 (.take 9 (.alt 10 (.done) .no)))) .no) .no))))))] ∧ ∀ d, (cx_ref15_Cover.ob).contains d = false := ⟨rfl, rfl, rfl, rfl, rfl, rfl, fun _ => rfl⟩
theorem cok_ref15_Cover : COk Try.prog (cx_ref15_Cover) := cok_of rfl (.cons ok_ref15_Right (.cons ok_ref15_Len (.cons ok_ref01_Add (.cons ok_ref15_without (.nil))))) (.cons (fun _ => fn1_quiet) (.cons (fun _ => fn1_quiet) (.cons (fun _ => fn2_quiet) (.cons (fun _ => fn2_quiet) (.nil))))) (.nil)
set_option maxHeartbeats 2000000 in
theorem ok_ref15_Cover : Ok Try.prog 28 c_ref15_Cover := by
  refine ok_fn1 cok_ref15_Cover mixed Try.func28 rfl (by kernel_rfl) (by kernel_rfl) rfl ?_
  intro l om hw hl
  have hb := wf_e2 hw
  have cl : ∀ m : List D2, (∀ x ∈ m, x ∈ l) → covr m < 340282366920938463463374607431768211456 := fun m hm => by
    have := covr_le (l := m) (N := 340282366920938463463374607431768211455) fun s hs => by have := (hb.2 s (hm s hs)).2; omega
    omega
  simp only [go_sem, Try.f28, kn1, kn2, kn3, kn4, kn5, kn6, kn7, kn8, kn9, kz1, kz2, kz3, kz4, kz5, kz6, kz7, kz8, kz9, kz0, reduceCtorEq, String.reduceEq, kn0, kq1, kq2, kq3, kq4, Int.toNat_natCast]
  refine ⟨Nat, fun i => ⟨[.sl (els v2 l), .u, .ref 2 1 2 0 0, .ref 3 1 2 0 0, .z i, .u, .u, .u, .u, .u, .u, .u, .u, .u, .u, .u, .u, .u, .u, .u, .u, .u, .u, .u, .u, .u, .u, .u, .u, .u, .u, .u, .u, .u, .u, .u, .u, .u, .u, .u, .u, .u, .u, .u, .u, .u, .u, .u, .u, .u, .u, .u, .u, .u, .u], [(3, ⟨2, true, [vW (covr (l.take i))], false⟩), (2, ⟨2, true, [vW 0], false⟩)], om⟩, fun i => i ≤ l.length, fun i => l.length - i, ⟨0, Nat.zero_le _, ?_⟩, ?_⟩
  · simp only [go_sem, kn1, kn2, kn3, kn4, kn5, kn6, kn7, kn8, kn9, kz1, kz2, kz3, kz4, kz5, kz6, kz7, kz8, kz9, kz0, reduceCtorEq, String.reduceEq, kn0, kq1, kq2, kq3, kq4, Int.toNat_natCast, List.take_zero, show covr [] = 0 from rfl]
  · intro i hi
    by_cases c : i < l.length
    · have c' : ((i : Int) < (l.length : Int)) = True := eq_true (by omega)
      obtain ⟨S, hS⟩ : ∃ S, l.getD i z2 = S := ⟨_, rfl⟩
      have tk := take_snoc2 c
      rw [hS] at tk
      have wS : S.wf := hS ▸ wf_fl hb.2 i
      have wT : ∀ x ∈ l.take i, x.b ≤ 340282366920938463463374607431768211455 := fun x hx => by have := (hb.2 x (List.mem_of_mem_take hx)).2; omega
      have cs : covr (l.take (i + 1)) = covr (l.take i) + sumL (leftL (l.take i) S) := by
        rw [tk]; exact covr_step (N := 340282366920938463463374607431768211455) wT (by have := wS.2; omega)
      have ct := cl (l.take (i + 1)) fun x hx => List.mem_of_mem_take hx
      have inner : ∀ k, k ≤ i → (leftL (l.take k) S).length ≤ k + 1 := fun k hk => by
        have := (leftL_ok S (l.take k)).2.1
        rw [List.length_take] at this; omega
      have main : ∀ (E : St) (Q : C2 Ex St), True := fun _ _ => trivial
      by_cases d : S.a ≤ S.b
      · have d' := eq_true d
        simp only [go_sem, kn1, kn2, kn3, kn4, kn5, kn6, kn7, kn8, kn9, kz1, kz2, kz3, kz4, kz5, kz6, kz7, kz8, kz9, kz0, reduceCtorEq, String.reduceEq, kn0, kq1, kq2, kq3, kq4, Int.toNat_natCast, c', e2_get, hS, d']
        refine ⟨by omega, by omega, Nat, fun k => ⟨[.sl (els v2 l), .u, .ref 2 1 2 0 0, .ref 3 1 2 0 0, .z i, .sl (els v2 (leftL (l.take k) S)), .z k, .u, .u, .u, .u, .u, .u, .u, .u, .u, .u, .u, .u, .u, .u, .u, .u, .u, .u, .u, .u, .u, .u, .u, .u, .u, .u, .u, .u, .u, .u, .u, .u, .u, .u, .u, .u, .u, .u, .u, .u, .u, .u, .u, .u, .u, .u, .u, .u], [(3, ⟨2, true, [vW (covr (l.take i))], false⟩), (2, ⟨2, true, [vW 0], false⟩)], om⟩, fun k => k ≤ i, fun k => i - k, ⟨0, Nat.zero_le _, ?_⟩, ?_⟩
        · simp only [go_sem, kn1, kn2, kn3, kn4, kn5, kn6, kn7, kn8, kn9, kz1, kz2, kz3, kz4, kz5, kz6, kz7, kz8, kz9, kz0, reduceCtorEq, String.reduceEq, kn0, kq1, kq2, kq3, kq4, Int.toNat_natCast, List.take_zero, leftL, List.foldl_nil, if_pos d]
          try simp [els, v2]
        · intro k hk
          by_cases c3 : k < i
          · have c3' : ((k : Int) < (i : Int)) = True := eq_true (by omega)
            have e3 : leftL (l.take (k + 1)) S = lessL (leftL (l.take k) S) (l.getD k z2) := by rw [take_snoc2 (by omega), leftL_snoc]
            have i3 := inner k hk
            simp only [go_sem, kn1, kn2, kn3, kn4, kn5, kn6, kn7, kn8, kn9, kz1, kz2, kz3, kz4, kz5, kz6, kz7, kz8, kz9, kz0, reduceCtorEq, String.reduceEq, kn0, kq1, kq2, kq3, kq4, Int.toNat_natCast, c3', e2_get]
            exact ⟨by omega, by omega, fun _ => ⟨by omega, k + 1, by omega, ⟨by rw [e3], by omega⟩, by omega⟩⟩
          · have c3' : ((k : Int) < (i : Int)) = False := eq_false (by omega)
            have ek : k = i := by omega
            subst ek
            have i3 := inner k hk
            obtain ⟨L, hL⟩ : ∃ L, leftL (l.take k) S = L := ⟨_, rfl⟩
            obtain ⟨X, hX⟩ : ∃ X, covr (l.take k) = X := ⟨_, rfl⟩
            rw [hL] at i3 cs
            rw [hX] at cs
            simp only [go_sem, kn1, kn2, kn3, kn4, kn5, kn6, kn7, kn8, kn9, kz1, kz2, kz3, kz4, kz5, kz6, kz7, kz8, kz9, kz0, reduceCtorEq, String.reduceEq, kn0, kq1, kq2, kq3, kq4, Int.toNat_natCast, c3', hL, hX]
            refine ⟨Nat, fun j => ⟨[.sl (els v2 l), .u, .ref 2 1 2 0 0, .ref 3 1 2 0 0, .z k, .sl (els v2 L), .u, .z j, .u, .u, .u, .u, .u, .u, .u, .u, .u, .u, .u, .u, .u, .u, .u, .u, .u, .u, .u, .u, .u, .u, .u, .u, .u, .u, .u, .u, .u, .u, .u, .u, .u, .u, .u, .u, .u, .u, .u, .u, .u, .u, .u, .u, .u, .u, .u], [(3, ⟨2, true, [vW (X + sumL (L.take j))], false⟩), (2, ⟨2, true, [vW 0], false⟩)], om⟩, fun j => j ≤ L.length, fun j => L.length - j, ⟨0, Nat.zero_le _, ?_⟩, ?_⟩
            · simp only [go_sem, kn1, kn2, kn3, kn4, kn5, kn6, kn7, kn8, kn9, kz1, kz2, kz3, kz4, kz5, kz6, kz7, kz8, kz9, kz0, reduceCtorEq, String.reduceEq, kn0, kq1, kq2, kq3, kq4, Int.toNat_natCast, List.take_zero, show sumL [] = 0 from rfl, Nat.add_zero]
            · intro j hj
              by_cases c4 : j < L.length
              · have c4' : ((j : Int) < (L.length : Int)) = True := eq_true (by omega)
                have e4 : sumL (L.take (j + 1)) = sumL (L.take j) + ((L.getD j z2).b - (L.getD j z2).a) := by rw [take_snoc2 c4, sumL_snoc]
                have e5 := sumL_take L (j + 1)
                have e6 : (X + sumL (L.take j) + ((L.getD j z2).b - (L.getD j z2).a)) % 340282366920938463463374607431768211456 = X + sumL (L.take (j + 1)) := by rw [e4]; rw [Nat.mod_eq_of_lt (by omega), Nat.add_assoc]
                simp only [go_sem, kn1, kn2, kn3, kn4, kn5, kn6, kn7, kn8, kn9, kz1, kz2, kz3, kz4, kz5, kz6, kz7, kz8, kz9, kz0, reduceCtorEq, String.reduceEq, kn0, kq1, kq2, kq3, kq4, Int.toNat_natCast, c4', e2_get, e6]
                refine ⟨by omega, fun _ _ => ⟨by omega, j + 1, by omega, ?_, by omega⟩⟩
                first | omega | exact ⟨by omega, rfl, rfl⟩ | simp
              · have c4' : ((j : Int) < (L.length : Int)) = False := eq_false (by omega)
                have ej : j = L.length := by omega
                subst ej
                simp only [go_sem, kn1, kn2, kn3, kn4, kn5, kn6, kn7, kn8, kn9, kz1, kz2, kz3, kz4, kz5, kz6, kz7, kz8, kz9, kz0, reduceCtorEq, String.reduceEq, kn0, kq1, kq2, kq3, kq4, Int.toNat_natCast, c4', List.take_length, ← cs]
                exact ⟨by omega, k + 1, by omega, by first | omega | exact ⟨by omega, rfl, rfl⟩ | simp, by omega⟩
      · have d' := eq_false d
        have e0 : ∀ m, leftL m S = [] := fun m => by
          unfold leftL; rw [if_neg d]
          induction m with
          | nil => rfl
          | cons x m ih => exact ih
        rw [e0, show sumL [] = 0 from rfl, Nat.add_zero] at cs
        simp only [go_sem, kn1, kn2, kn3, kn4, kn5, kn6, kn7, kn8, kn9, kz1, kz2, kz3, kz4, kz5, kz6, kz7, kz8, kz9, kz0, reduceCtorEq, String.reduceEq, kn0, kq1, kq2, kq3, kq4, Int.toNat_natCast, c', e2_get, hS, d']
        refine ⟨by omega, by omega, Nat, fun k => ⟨[.sl (els v2 l), .u, .ref 2 1 2 0 0, .ref 3 1 2 0 0, .z i, .sl [], .z k, .u, .u, .u, .u, .u, .u, .u, .u, .u, .u, .u, .u, .u, .u, .u, .u, .u, .u, .u, .u, .u, .u, .u, .u, .u, .u, .u, .u, .u, .u, .u, .u, .u, .u, .u, .u, .u, .u, .u, .u, .u, .u, .u, .u, .u, .u, .u, .u], [(3, ⟨2, true, [vW (covr (l.take i))], false⟩), (2, ⟨2, true, [vW 0], false⟩)], om⟩, fun k => k ≤ i, fun k => i - k, ⟨0, Nat.zero_le _, ?_⟩, ?_⟩
        · simp only [go_sem, kn1, kn2, kn3, kn4, kn5, kn6, kn7, kn8, kn9, kz1, kz2, kz3, kz4, kz5, kz6, kz7, kz8, kz9, kz0, reduceCtorEq, String.reduceEq, kn0, kq1, kq2, kq3, kq4, Int.toNat_natCast]
        · intro k hk
          have nl : lessL [] (l.getD k z2) = [] := rfl
          by_cases c3 : k < i
          · have c3' : ((k : Int) < (i : Int)) = True := eq_true (by omega)
            simp only [go_sem, kn1, kn2, kn3, kn4, kn5, kn6, kn7, kn8, kn9, kz1, kz2, kz3, kz4, kz5, kz6, kz7, kz8, kz9, kz0, reduceCtorEq, String.reduceEq, kn0, kq1, kq2, kq3, kq4, Int.toNat_natCast, c3', e2_get, nl]
            first
              | exact ⟨by omega, by omega, k + 1, by omega, by omega, by omega⟩
              | exact ⟨by omega, fun _ => ⟨by omega, k + 1, by omega, by omega, by omega⟩⟩
          · have c3' : ((k : Int) < (i : Int)) = False := eq_false (by omega)
            simp only [go_sem, kn1, kn2, kn3, kn4, kn5, kn6, kn7, kn8, kn9, kz1, kz2, kz3, kz4, kz5, kz6, kz7, kz8, kz9, kz0, reduceCtorEq, String.reduceEq, kn0, kq1, kq2, kq3, kq4, Int.toNat_natCast, c3']
            refine ⟨Unit, fun _ => ⟨[.sl (els v2 l), .u, .ref 2 1 2 0 0, .ref 3 1 2 0 0, .z i, .sl [], .u, .z 0, .u, .u, .u, .u, .u, .u, .u, .u, .u, .u, .u, .u, .u, .u, .u, .u, .u, .u, .u, .u, .u, .u, .u, .u, .u, .u, .u, .u, .u, .u, .u, .u, .u, .u, .u, .u, .u, .u, .u, .u, .u, .u, .u, .u, .u, .u, .u], [(3, ⟨2, true, [vW (covr (l.take i))], false⟩), (2, ⟨2, true, [vW 0], false⟩)], om⟩, fun _ => True, fun _ => 0, ⟨(), trivial, ?_⟩, ?_⟩
            · simp only [go_sem, kn1, kn2, kn3, kn4, kn5, kn6, kn7, kn8, kn9, kz1, kz2, kz3, kz4, kz5, kz6, kz7, kz8, kz9, kz0, reduceCtorEq, String.reduceEq, kn0, kq1, kq2, kq3, kq4, Int.toNat_natCast]
            · intro _ _
              simp only [go_sem, kn1, kn2, kn3, kn4, kn5, kn6, kn7, kn8, kn9, kz1, kz2, kz3, kz4, kz5, kz6, kz7, kz8, kz9, kz0, reduceCtorEq, String.reduceEq, kn0, kq1, kq2, kq3, kq4, Int.toNat_natCast, ← cs]
              first
                | exact ⟨by omega, i + 1, by omega, by first | omega | exact ⟨by omega, rfl, rfl⟩ | simp, by omega⟩
                | exact ⟨i + 1, by omega, by first | omega | exact ⟨by omega, rfl, rfl⟩ | simp, by omega⟩
    · have c' : ((i : Int) < (l.length : Int)) = False := eq_false (by omega)
      have ek : i = l.length := by omega
      subst ek
      simp only [go_sem, kn1, kn2, kn3, kn4, kn5, kn6, kn7, kn8, kn9, kz1, kz2, kz3, kz4, kz5, kz6, kz7, kz8, kz9, kz0, reduceCtorEq, String.reduceEq, kn0, kq1, kq2, kq3, kq4, Int.toNat_natCast, c', List.take_length]
end Go.Proofs.Ytlcnohmnemmbdaa.I
