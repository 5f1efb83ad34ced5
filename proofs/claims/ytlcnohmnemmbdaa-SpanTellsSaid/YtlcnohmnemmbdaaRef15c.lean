/- The reference of layer 15: Twice, Cover. -/
import Derived.Test.YtlcnohmnemmbdaaRef15w
namespace Go.Proofs.Ytlcnohmnemmbdaa.I
open Go
open Nat renaming reduceEqDiff → kn1, reduceBEq → kn2, reducePow → kn3, reduceMod → kn4, reduceAdd → kn5, reduceSub → kn6, reduceMul → kn7, reduceDiv → kn8, reduceLeDiff → kn9, reduceLT → kn0, zero_lt_one → kq1, zero_add → kq2, zero_le → kq3, le_refl → kq4
open Int renaming reduceToNat → kz1, reduceAdd → kz2, reduceSub → kz3, reduceMul → kz4, reduceDiv → kz5, reduceMod → kz6, reduceLE → kz7, reduceLT → kz8, reduceNeg → kz9, reduceEq → kz0
set_option maxRecDepth 10000
set_option linter.unusedSimpArgs false
set_option linter.unusedVariables false

/-- Does one stand there for the first time, and once more behind? -/
def twP (l : List D2) (i : Nat) : Bool := decide (l.getD i z2 ∉ l.take i) && decide (l.getD i z2 ∈ l.drop (i + 1))
def twI (l : List D2) (k : Nat) : List D2 := ((List.range k).filter (twP l)).map fun i => l.getD i z2
theorem twI_succ (l : List D2) (k : Nat) : twI l (k + 1) = twI l k ++ (if twP l k = true then [l.getD k z2] else []) := by
  unfold twI
  rw [List.range_succ, List.filter_append, List.map_append]
  by_cases c : twP l k = true
  · rw [if_pos c]; simp [List.filter_cons, c]
  · rw [if_neg c]; simp [List.filter_cons, c]
theorem twI_len (l : List D2) (k : Nat) : (twI l k).length ≤ k := by
  unfold twI
  rw [List.length_map]
  exact Nat.le_trans (List.length_filter_le _ _) (by simp)
theorem pick_tw (l : List D2) : ∀ (rest pre : List D2) (m : List (D2 × Int)), l = pre ++ rest → (∀ s, lookD s m = if s ∈ pre ∧ 1 < l.countP (fun x => x == s) then 0 else (l.countP (fun x => x == s) : Nat)) → twI l pre.length ++ (pickM rest m).1 = twI l l.length
  | [], pre, m, h, _ => by
    rw [List.append_nil] at h
    rw [h, pickM, List.append_nil]
  | s :: rest, pre, m, h, g => by
    have e1 : l.getD pre.length z2 = s := by rw [h]; simp [List.getD_eq_getElem?_getD]
    have e2 : l.take pre.length = pre := by rw [h]; simp
    have e3 : l.drop (pre.length + 1) = rest := by
      rw [h, show pre ++ s :: rest = (pre ++ [s]) ++ rest by simp, show pre.length + 1 = (pre ++ [s]).length by simp, List.drop_left]
    have e4 : twP l pre.length = (decide (s ∉ pre) && decide (s ∈ rest)) := by unfold twP; rw [e1, e2, e3]
    have tc : l.countP (fun x => x == s) = pre.countP (fun x => x == s) + 1 + rest.countP (fun x => x == s) := by
      rw [h, List.countP_append, List.countP_cons]; simp; omega
    have z : ∀ l : List D2, s ∉ l → l.countP (fun x => x == s) = 0 := fun l hl => List.countP_eq_zero.2 fun y hy e => hl (by rw [← (show y = s by simpa using e)]; exact hy)
    have p : ∀ l : List D2, s ∈ l → 0 < l.countP (fun x => x == s) := fun l hl => List.countP_pos_iff.2 ⟨s, hl, by simp⟩
    have st := twI_succ l pre.length
    rw [e1] at st
    have gs := g s
    have hl : l = (pre ++ [s]) ++ rest := by rw [h]; simp
    have len : (pre ++ [s]).length = pre.length + 1 := by simp
    unfold pickM
    by_cases c : 1 < lookD s m
    · have c1 : s ∉ pre ∧ 1 < l.countP (fun x => x == s) := by
        rw [gs] at c
        by_cases d : s ∈ pre ∧ 1 < l.countP (fun x => x == s)
        · rw [if_pos d] at c; omega
        · rw [if_neg d] at c
          have c' : 1 < l.countP (fun x => x == s) := by omega
          exact ⟨fun q => d ⟨q, c'⟩, c'⟩
      have c2 : s ∈ rest := by
        by_cases d : s ∈ rest
        · exact d
        · have := z _ d; have := z _ c1.1; have := c1.2; omega
      rw [if_pos c]
      rw [e4, decide_eq_true c1.1, decide_eq_true c2] at st
      have ih := pick_tw l rest (pre ++ [s]) (putM2 s 0 m) hl fun x => by
        unfold lookD
        rw [look_put]
        by_cases d : x = s
        · subst d
          rw [if_pos rfl, if_pos ⟨by simp, c1.2⟩]; rfl
        · rw [if_neg d]
          have := g x
          unfold lookD at this
          rw [this]
          simp only [List.mem_append, List.mem_singleton, d, or_false]
      rw [← ih, len, st]
      simp
    · rw [if_neg c]
      have c1 : ¬ (s ∉ pre ∧ s ∈ rest) := fun d => by
        apply c
        rw [gs, if_neg (fun q => d.1 q.1)]
        have := p _ d.2
        omega
      have e5 : (decide (s ∉ pre) && decide (s ∈ rest)) = false := by
        rw [Bool.eq_false_iff]; intro q; rw [Bool.and_eq_true] at q; exact c1 ⟨of_decide_eq_true q.1, of_decide_eq_true q.2⟩
      rw [e4, e5] at st
      have ih := pick_tw l rest (pre ++ [s]) m hl fun x => by
        by_cases d : x = s
        · subst d
          rw [gs] at c ⊢
          by_cases q : x ∈ pre ∧ 1 < l.countP (fun y => y == x)
          · rw [if_pos q, if_pos ⟨by simp, q.2⟩]
          · rw [if_neg q] at c ⊢
            rw [if_neg fun r => c (by have := r.2; omega)]
        · rw [g x]
          simp only [List.mem_append, List.mem_singleton, d, or_false]
      rw [← ih, len, st]
      simp
theorem twice_tw (l : List D2) : twice l = twI l l.length := by
  have := pick_tw l l [] (countM l []) rfl fun s => by
    rw [look_count, if_neg (fun q => absurd q.1 List.not_mem_nil)]
    simp [lookD, look]
  rw [← this]; rfl
@[go_sem] noncomputable def c_ref15_Twice : Cn := fn1 (tL t2) (fun l => l.length ≤ 1000) fun l => .sl (els v2 (twice l))
noncomputable def cx_ref15_Twice : Cx := { T := T, E := E, cs := [], sch := [(10, false, .take 0 (.take 1 (.take 2 (.take 3 (.take 4 (.take 5 (.take 6 (.take 7 (.take 8 (.take 9 (.take 10 (.take 11 (.take 12 (.take 13 (.done))))))))))))))), (12, false, .take 0 (.take 1 (.take 2 (.take 3 (.take 4 (.take 5 (.take 6 (.take 7 (.take 8 (.take 9 (.take 10 (.take 11 (.take 12 (.take 13 (.done)))))))))))))))], ob := [], qs := [] }
@[go_sem] theorem cx_ref15_Twice_e : cx_ref15_Twice.gs = none ∧ cx_ref15_Twice.md = 0 ∧ cx_ref15_Twice.T = T ∧ cx_ref15_Twice.E = E ∧ cx_ref15_Twice.cs = [] ∧ cx_ref15_Twice.sch = [(10, false, .take 0 (.take 1 (.take 2 (.take 3 (.take 4 (.take 5 (.take 6 (.take 7 (.take 8 (.take 9 (.take 10 (.take 11 (.take 12 (.take 13 (.done))))))))))))))), (12, false, .take 0 (.take 1 (.take 2 (.take 3 (.take 4 (.take 5 (.take 6 (.take 7 (.take 8 (.take 9 (.take 10 (.take 11 (.take 12 (.take 13 (.done)))))))))))))))] ∧ ∀ d, (cx_ref15_Twice.ob).contains d = false := ⟨rfl, rfl, rfl, rfl, rfl, rfl, fun _ => rfl⟩
theorem cok_ref15_Twice : COk Try.prog (cx_ref15_Twice) := cok_of rfl (.nil) (.nil) (.nil)
set_option maxHeartbeats 2000000 in
theorem ok_ref15_Twice : Ok Try.prog 26 c_ref15_Twice := by
  refine ok_fn1 cok_ref15_Twice mixed Try.func26 rfl (by kernel_rfl) (by kernel_rfl) rfl ?_
  intro l om hw hl
  simp only [go_sem, Try.f26, kn1, kn2, kn3, kn4, kn5, kn6, kn7, kn8, kn9, kz1, kz2, kz3, kz4, kz5, kz6, kz7, kz8, kz9, kz0, reduceCtorEq, String.reduceEq, kn0, kq1, kq2, kq3, kq4, Int.toNat_natCast, twice_tw]
  refine ⟨Nat, fun i => ⟨[.sl (els v2 l), .u, .nils, .row 65 (twI l i).length (twI l i).length, .z i, .u, .u, .u, .u, .u, .u, .u, .u, .u, .u, .u, .u, .u, .u, .u, .u, .u, .u, .u, .u, .u, .u, .u, .u, .u, .u, .u, .u, .u, .u, .u, .u, .u, .u, .u, .u, .u, .u, .u, .u, .u, .u, .u, .u, .u, .u, .u, .u, .u, .u, .u, .u, .u, .u, .u, .u, .u, .u, .u, .u, .u, .u], [(65, ⟨4, true, els v2 (twI l i), false⟩)], om⟩, fun i => i ≤ l.length, fun i => l.length - i, ⟨0, Nat.zero_le _, ?_⟩, ?_⟩
  · simp only [go_sem, kn1, kn2, kn3, kn4, kn5, kn6, kn7, kn8, kn9, kz1, kz2, kz3, kz4, kz5, kz6, kz7, kz8, kz9, kz0, reduceCtorEq, String.reduceEq, kn0, kq1, kq2, kq3, kq4, Int.toNat_natCast, show twI l 0 = [] from rfl]
  · intro i hi
    by_cases c : i < l.length
    · have c' : ((i : Int) < (l.length : Int)) = True := eq_true (by omega)
      have tl := twI_len l i
      obtain ⟨A, hA⟩ : ∃ A, twI l i = A := ⟨_, rfl⟩
      have st := twI_succ l i
      rw [hA] at st tl
      simp only [go_sem, kn1, kn2, kn3, kn4, kn5, kn6, kn7, kn8, kn9, kz1, kz2, kz3, kz4, kz5, kz6, kz7, kz8, kz9, kz0, reduceCtorEq, String.reduceEq, kn0, kq1, kq2, kq3, kq4, Int.toNat_natCast, c', hA]
      refine ⟨Nat × Nat × Nat, fun q => ⟨[.sl (els v2 l), .u, .nils, .row 65 A.length A.length, .z i, .z q.2.1, .z q.2.2, .z q.1, .u, .u, .u, .u, .u, .u, .u, .u, .u, .u, .u, .u, .u, .u, .u, .u, .u, .u, .u, .u, .u, .u, .u, .u, .u, .u, .u, .u, .u, .u, .u, .u, .u, .u, .u, .u, .u, .u, .u, .u, .u, .u, .u, .u, .u, .u, .u, .u, .u, .u, .u, .u, .u, .u, .u, .u, .u, .u, .u], [(65, ⟨4, true, els v2 A, false⟩)], om⟩,
        fun q => q.1 ≤ l.length ∧ q.2.1 ≤ q.1 ∧ q.2.2 ≤ q.1 ∧ (q.2.1 = 0 ↔ ∀ j, j < q.1 → j < i → l.getD j z2 ≠ l.getD i z2) ∧ (0 < q.2.2 ↔ ∃ j, j < q.1 ∧ i < j ∧ l.getD j z2 = l.getD i z2), fun q => l.length - q.1, ⟨(0, 0, 0), ⟨Nat.zero_le _, Nat.le_refl _, Nat.le_refl _, ⟨fun _ j h => by simp only at h; omega, fun _ => rfl⟩, ⟨fun h => by simp only at h; omega, fun ⟨j, h, _⟩ => by simp only at h; omega⟩⟩, ?_⟩, ?_⟩
      · simp only [go_sem, kn1, kn2, kn3, kn4, kn5, kn6, kn7, kn8, kn9, kz1, kz2, kz3, kz4, kz5, kz6, kz7, kz8, kz9, kz0, reduceCtorEq, String.reduceEq, kn0, kq1, kq2, kq3, kq4, Int.toNat_natCast]
      · rintro ⟨k, a, b⟩ ⟨h1, h2, h3, h4, h5⟩
        simp only at h1 h2 h3 h4 h5
        by_cases c3 : k < l.length
        · have c3' : ((k : Int) < (l.length : Int)) = True := eq_true (by omega)
          have e := v2_eq_iff (l.getD k z2) (l.getD i z2)
          simp only [v2_eq, V.agg.injEq, List.cons.injEq, V.n.injEq, true_and, and_true] at e
          have A4 : ∀ a', (a' = 0 ↔ a = 0 ∧ ¬ (l.getD k z2 = l.getD i z2 ∧ k < i)) → (a' = 0 ↔ ∀ j, j < k + 1 → j < i → l.getD j z2 ≠ l.getD i z2) := fun a' e => by
            rw [e, h4]
            refine ⟨fun ⟨p, q⟩ j g1 g2 => ?_, fun p => ⟨fun j g1 g2 => p j (by omega) g2, fun ⟨q1, q2⟩ => p k (by omega) q2 q1⟩⟩
            by_cases x : j = k
            · subst x; exact fun r => q ⟨r, g2⟩
            · exact p j (by omega) g2
          have B5 : ∀ b', (0 < b' ↔ 0 < b ∨ (l.getD k z2 = l.getD i z2 ∧ i < k)) → (0 < b' ↔ ∃ j, j < k + 1 ∧ i < j ∧ l.getD j z2 = l.getD i z2) := fun b' e => by
            rw [e, h5]
            constructor
            · rintro (⟨j, g1, g2, g3⟩ | ⟨g1, g2⟩)
              · exact ⟨j, by omega, g2, g3⟩
              · exact ⟨k, by omega, g2, g1⟩
            · rintro ⟨j, g1, g2, g3⟩
              by_cases x : j = k
              · subst x; exact .inr ⟨g3, g2⟩
              · exact .inl ⟨j, by omega, g2, g3⟩
          by_cases d : l.getD k z2 = l.getD i z2
          · rcases Nat.lt_trichotomy k i with d2 | d2 | d2
            · have x1 : ((k : Int) < (i : Int)) = True := eq_true (by omega)
              have x2 : ((i : Int) < (k : Int)) = False := eq_false (by omega)
              simp only [go_sem, kn1, kn2, kn3, kn4, kn5, kn6, kn7, kn8, kn9, kz1, kz2, kz3, kz4, kz5, kz6, kz7, kz8, kz9, kz0, reduceCtorEq, String.reduceEq, kn0, kq1, kq2, kq3, kq4, Int.toNat_natCast, c3', e2_get, d, x1, x2]
              exact ⟨by omega, by omega, by omega, by omega, by omega, by omega, (k + 1, a + 1, b), ⟨by show k + 1 ≤ _; omega, by show a + 1 ≤ k + 1; omega, by show b ≤ k + 1; omega, A4 (a + 1) ⟨fun h => by omega, fun h => absurd ⟨d, d2⟩ h.2⟩, B5 b ⟨.inl, fun h => h.elim id fun g => by have := g.2; omega⟩⟩, by dsimp only; omega, by show l.length - (k + 1) < _; omega⟩
            · have x1 : ((k : Int) < (i : Int)) = False := eq_false (by omega)
              have x2 : ((i : Int) < (k : Int)) = False := eq_false (by omega)
              simp only [go_sem, kn1, kn2, kn3, kn4, kn5, kn6, kn7, kn8, kn9, kz1, kz2, kz3, kz4, kz5, kz6, kz7, kz8, kz9, kz0, reduceCtorEq, String.reduceEq, kn0, kq1, kq2, kq3, kq4, Int.toNat_natCast, c3', e2_get, d, x1, x2]
              exact ⟨by omega, by omega, by omega, by omega, by omega, (k + 1, a, b), ⟨by show k + 1 ≤ _; omega, by show a ≤ k + 1; omega, by show b ≤ k + 1; omega, A4 a ⟨fun h => ⟨h, fun g => by have := g.2; omega⟩, fun h => h.1⟩, B5 b ⟨.inl, fun h => h.elim id fun g => by have := g.2; omega⟩⟩, by dsimp only; omega, by show l.length - (k + 1) < _; omega⟩
            · have x1 : ((k : Int) < (i : Int)) = False := eq_false (by omega)
              have x2 : ((i : Int) < (k : Int)) = True := eq_true (by omega)
              simp only [go_sem, kn1, kn2, kn3, kn4, kn5, kn6, kn7, kn8, kn9, kz1, kz2, kz3, kz4, kz5, kz6, kz7, kz8, kz9, kz0, reduceCtorEq, String.reduceEq, kn0, kq1, kq2, kq3, kq4, Int.toNat_natCast, c3', e2_get, d, x1, x2]
              exact ⟨by omega, by omega, by omega, by omega, by omega, by omega, (k + 1, a, b + 1), ⟨by show k + 1 ≤ _; omega, by show a ≤ k + 1; omega, by show b + 1 ≤ k + 1; omega, A4 a ⟨fun h => ⟨h, fun g => by have := g.2; omega⟩, fun h => h.1⟩, B5 (b + 1) ⟨fun _ => .inr ⟨d, d2⟩, fun _ => by omega⟩⟩, by dsimp only; omega, by show l.length - (k + 1) < _; omega⟩
          · have d' := eq_false d
            simp only [go_sem, kn1, kn2, kn3, kn4, kn5, kn6, kn7, kn8, kn9, kz1, kz2, kz3, kz4, kz5, kz6, kz7, kz8, kz9, kz0, reduceCtorEq, String.reduceEq, kn0, kq1, kq2, kq3, kq4, Int.toNat_natCast, c3', e2_get, e, d']
            exact ⟨by omega, by omega, by omega, by omega, by omega, (k + 1, a, b), ⟨by show k + 1 ≤ _; omega, by show a ≤ k + 1; omega, by show b ≤ k + 1; omega, A4 a ⟨fun h => ⟨h, fun g => d g.1⟩, fun h => h.1⟩, B5 b ⟨.inl, fun h => h.elim id fun g => absurd g.1 d⟩⟩, by dsimp only; omega, by show l.length - (k + 1) < _; omega⟩
        · have c3' : ((k : Int) < (l.length : Int)) = False := eq_false (by omega)
          have ek : k = l.length := by omega
          subst ek
          have m1 : (a = 0) ↔ l.getD i z2 ∉ l.take i := by
            rw [h4]
            refine ⟨fun p q => ?_, fun p j g1 g2 g3 => p ?_⟩
            · obtain ⟨j, hj, e⟩ := List.getElem_of_mem q
              have hj' : j < i := by simp at hj; omega
              refine p j (by omega) hj' ?_
              rw [← e, List.getD_eq_getElem?_getD, List.getElem?_eq_getElem (by omega : j < l.length)]
              simp
            · rw [← g3, List.getD_eq_getElem?_getD, List.getElem?_eq_getElem g1]
              exact List.mem_take_iff_getElem.2 ⟨j, by omega, rfl⟩
          have m2 : (0 < b) ↔ l.getD i z2 ∈ l.drop (i + 1) := by
            rw [h5]
            refine ⟨fun ⟨j, g1, g2, g3⟩ => ?_, fun q => ?_⟩
            · rw [← g3, List.getD_eq_getElem?_getD, List.getElem?_eq_getElem g1]
              exact List.mem_drop_iff_getElem.2 ⟨j - (i + 1), by omega, by simp [show i + 1 + (j - (i + 1)) = j by omega]⟩
            · obtain ⟨j, hj, e⟩ := List.mem_drop_iff_getElem.1 q
              exact ⟨i + 1 + j, by omega, by omega, by rw [← e, List.getD_eq_getElem?_getD, List.getElem?_eq_getElem (by omega : i + 1 + j < l.length)]; rfl⟩
          by_cases d1 : l.getD i z2 ∉ l.take i
          · have y1 : ((a : Int) = 0) = True := eq_true (by have := m1.2 d1; omega)
            by_cases d2 : l.getD i z2 ∈ l.drop (i + 1)
            · have y2 : ((0 : Int) < (b : Int)) = True := eq_true (by have := m2.2 d2; omega)
              have tp : twP l i = true := by unfold twP; rw [decide_eq_true d1, decide_eq_true d2]; rfl
              rw [if_pos tp] at st
              have ap : els v2 A ++ [V.agg [.n .u64 ((l.getD i z2).a / 18446744073709551616), .n .u64 ((l.getD i z2).a % 18446744073709551616), .n .u64 ((l.getD i z2).b / 18446744073709551616), .n .u64 ((l.getD i z2).b % 18446744073709551616)]] = els v2 (twI l (i + 1)) := by rw [st, ← els_append]; rfl
              have ln : (twI l (i + 1)).length = A.length + 1 := by rw [st]; simp
              simp only [go_sem, kn1, kn2, kn3, kn4, kn5, kn6, kn7, kn8, kn9, kz1, kz2, kz3, kz4, kz5, kz6, kz7, kz8, kz9, kz0, reduceCtorEq, String.reduceEq, kn0, kq1, kq2, kq3, kq4, Int.toNat_natCast, c3', y1, y2, e2_get, ap]
              exact ⟨by omega, by omega, by omega, i + 1, by omega, ⟨⟨by rw [ln] <;> exact ⟨rfl, rfl⟩, by omega⟩, rfl⟩, by omega⟩
            · have y2 : ((0 : Int) < (b : Int)) = False := eq_false (by have := mt m2.1 d2; omega)
              have tp : ¬ twP l i = true := by unfold twP; rw [decide_eq_true d1, decide_eq_false d2]; simp
              rw [if_neg tp, List.append_nil] at st
              simp only [go_sem, kn1, kn2, kn3, kn4, kn5, kn6, kn7, kn8, kn9, kz1, kz2, kz3, kz4, kz5, kz6, kz7, kz8, kz9, kz0, reduceCtorEq, String.reduceEq, kn0, kq1, kq2, kq3, kq4, Int.toNat_natCast, c3', y1, y2]
              exact ⟨by omega, i + 1, by omega, ⟨⟨by rw [st] <;> exact ⟨rfl, rfl⟩, by omega⟩, by rw [st]⟩, by omega⟩
          · have y1 : ((a : Int) = 0) = False := eq_false (by have := mt m1.1 d1; omega)
            have tp : ¬ twP l i = true := by unfold twP; rw [decide_eq_false d1]; simp
            rw [if_neg tp, List.append_nil] at st
            simp only [go_sem, kn1, kn2, kn3, kn4, kn5, kn6, kn7, kn8, kn9, kz1, kz2, kz3, kz4, kz5, kz6, kz7, kz8, kz9, kz0, reduceCtorEq, String.reduceEq, kn0, kq1, kq2, kq3, kq4, Int.toNat_natCast, c3', y1]
            exact ⟨by omega, i + 1, by omega, ⟨⟨by rw [st] <;> exact ⟨rfl, rfl⟩, by omega⟩, by rw [st]⟩, by omega⟩
    · have c' : ((i : Int) < (l.length : Int)) = False := eq_false (by omega)
      have ek : i = l.length := by omega
      subst ek
      simp only [go_sem, kn1, kn2, kn3, kn4, kn5, kn6, kn7, kn8, kn9, kz1, kz2, kz3, kz4, kz5, kz6, kz7, kz8, kz9, kz0, reduceCtorEq, String.reduceEq, kn0, kq1, kq2, kq3, kq4, Int.toNat_natCast, c', List.take_length]
end Go.Proofs.Ytlcnohmnemmbdaa.I
