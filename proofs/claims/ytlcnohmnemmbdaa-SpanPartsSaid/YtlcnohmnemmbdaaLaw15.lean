/- Chapter 15: SpanParts, SpanMeets, as contracts. -/
import Derived.Test.YtlcnohmnemmbdaaSpan12
import Derived.Test.YtlcnohmnemmbdaaCn5
namespace Go.Proofs.Ytlcnohmnemmbdaa.I
open Go
open Nat renaming reduceEqDiff → kn1, reduceBEq → kn2, reducePow → kn3, reduceMod → kn4, reduceAdd → kn5, reduceSub → kn6, reduceMul → kn7, reduceDiv → kn8, reduceLeDiff → kn9, reduceLT → kn0, zero_lt_one → kq1, zero_add → kq2, zero_le → kq3, le_refl → kq4
open Int renaming reduceToNat → kz1, reduceAdd → kz2, reduceSub → kz3, reduceMul → kz4, reduceDiv → kz5, reduceMod → kz6, reduceLE → kz7, reduceLT → kz8, reduceNeg → kz9, reduceEq → kz0
set_option maxRecDepth 10000
set_option linter.unusedSimpArgs false
set_option linter.unusedVariables false

@[go_sem] noncomputable def c_law15_SpanMeets : Cn := fn3 t2 t2 tW (fun _ _ _ => True) fun _ _ _ => .b true
noncomputable def cx_law15_SpanMeets : Cx := { T := T, E := E, cs := [(7, c_law15_awake), (17, c_span_Has), (19, c_span_Meet)], sch := [], ob := [], qs := [7, 17, 19] }
@[go_sem] theorem cx_law15_SpanMeets_e : cx_law15_SpanMeets.gs = none ∧ cx_law15_SpanMeets.md = 0 ∧ cx_law15_SpanMeets.T = T ∧ cx_law15_SpanMeets.E = E ∧ cx_law15_SpanMeets.cs = [(7, c_law15_awake), (17, c_span_Has), (19, c_span_Meet)] ∧ ∀ d, (cx_law15_SpanMeets.ob).contains d = false := ⟨rfl, rfl, rfl, rfl, rfl, fun _ => rfl⟩
theorem cok_law15_SpanMeets : COk Try.prog (cx_law15_SpanMeets) := cok_of rfl (.cons ok_law15_awake (.cons ok_span_Has (.cons ok_span_Meet (.nil)))) (.cons (fun _ => fn0_quiet) (.cons (fun _ => fn2_quiet) (.cons (fun _ => fn2_quiet) (.nil)))) (.nil)
set_option maxHeartbeats 4000000 in
theorem ok_law15_SpanMeets : Ok Try.prog 6 c_law15_SpanMeets := by
  refine ok_fn3 cok_law15_SpanMeets mixed Try.func6 rfl (by kernel_rfl) (by kernel_rfl) rfl ?_
  intro s t n om hw _
  have mc : meets t s = meets s t := propext (meets_comm t s)
  by_cases hm : meets s t
  · have hm' := eq_true hm
    simp (maxSteps := 10000000) only [go_sem, Try.f6, kn1, kn2, kn3, kn4, kn5, kn6, kn7, kn8, kn9, kz1, kz2, kz3, kz4, kz5, kz6, kz7, kz8, kz9, kz0, reduceCtorEq, String.reduceEq, kn0, kq1, kq2, kq3, kq4, Int.toNat_natCast, mc, hm', bne_self_eq_false, cmpN_le']
    clear mc hm'
    unfold meets at hm
    omega
  · have hm' := eq_false hm
    simp (maxSteps := 10000000) only [go_sem, Try.f6, kn1, kn2, kn3, kn4, kn5, kn6, kn7, kn8, kn9, kz1, kz2, kz3, kz4, kz5, kz6, kz7, kz8, kz9, kz0, reduceCtorEq, String.reduceEq, kn0, kq1, kq2, kq3, kq4, Int.toNat_natCast, mc, hm', bne_self_eq_false, cmpN_le']
    clear mc hm'
    unfold meets at hm
    omega
@[go_sem] noncomputable def c_law15_SpanParts : Cn := fn3 t2 tW tW (fun _ _ _ => True) fun _ _ _ => .b true
noncomputable def cx_law15_SpanParts : Cx := { T := T, E := E, cs := [(7, c_law15_awake), (8, c_span_Halves), (11, c_span_Take), (13, c_span_Right), (15, c_span_Len), (17, c_span_Has), (19, c_span_Meet), (29, c_wide_Sub), (30, c_wide_Cmp), (31, c_wide_Of)], sch := [(5, false, .take 0 (.take 2 (.alt 1 (.alt 3 (.alt 4 (.take 5 (.take 6 (.take 7 (.alt 8 (.alt 9 (.take 10 (.done)) .no) .no)))) (.alt 8 (.alt 4 (.take 5 (.take 6 (.take 7 (.alt 9 (.take 10 (.done)) .no)))) .no) (.no))) (.alt 8 (.alt 3 (.alt 4 (.take 5 (.take 6 (.take 7 (.alt 9 (.take 10 (.done)) .no)))) .no) .no) (.no))) (.alt 8 (.alt 1 (.alt 3 (.alt 4 (.take 5 (.take 6 (.take 7 (.alt 9 (.take 10 (.done)) .no)))) .no) .no) .no) (.no))))), (6, false, .take 0 (.take 1 (.take 2 (.alt 3 (.alt 4 (.take 5 (.take 6 (.take 7 (.take 8 (.take 9 (.alt 10 (.take 11 (.take 12 (.take 13 (.take 14 (.take 15 (.take 16 (.take 17 (.take 18 (.take 19 (.take 20 (.take 21 (.take 22 (.take 23 (.take 24 (.take 25 (.take 26 (.take 27 (.take 28 (.take 29 (.take 30 (.take 31 (.take 32 (.take 33 (.take 34 (.take 35 (.take 37 (.take 38 (.take 40 (.take 41 (.alt 36 (.alt 39 (.alt 42 (.take 43 (.take 44 (.take 45 (.done)))) .no) .no) .no)))))))))))))))))))))))))))))) .no)))))) .no) .no)))), (12, false, .take 0 (.alt 1 (.take 2 (.take 3 (.take 4 (.take 6 (.alt 5 (.alt 7 (.take 8 (.take 9 (.take 10 (.done)))) .no) .no))))) .no)), (13, false, .take 0 (.take 2 (.alt 1 (.take 3 (.take 4 (.take 5 (.take 6 (.alt 7 (.take 8 (.take 9 (.take 10 (.take 11 (.take 12 (.take 13 (.take 14 (.take 15 (.take 16 (.take 17 (.take 18 (.take 19 (.take 20 (.take 21 (.take 22 (.take 23 (.take 24 (.take 25 (.take 26 (.take 27 (.take 28 (.take 29 (.take 30 (.take 31 (.take 32 (.take 33 (.take 35 (.take 36 (.take 38 (.take 39 (.alt 34 (.alt 37 (.alt 40 (.take 41 (.take 42 (.take 43 (.take 44 (.done))))) .no) .no) .no))))))))))))))))))))))))))))))) .no))))) .no)))], ob := [], qs := [7, 8, 11, 13, 15, 17, 19, 29, 30, 31] }
@[go_sem] theorem cx_law15_SpanParts_e : cx_law15_SpanParts.gs = none ∧ cx_law15_SpanParts.md = 0 ∧ cx_law15_SpanParts.T = T ∧ cx_law15_SpanParts.E = E ∧ cx_law15_SpanParts.cs = [(7, c_law15_awake), (8, c_span_Halves), (11, c_span_Take), (13, c_span_Right), (15, c_span_Len), (17, c_span_Has), (19, c_span_Meet), (29, c_wide_Sub), (30, c_wide_Cmp), (31, c_wide_Of)] ∧ cx_law15_SpanParts.sch = [(5, false, .take 0 (.take 2 (.alt 1 (.alt 3 (.alt 4 (.take 5 (.take 6 (.take 7 (.alt 8 (.alt 9 (.take 10 (.done)) .no) .no)))) (.alt 8 (.alt 4 (.take 5 (.take 6 (.take 7 (.alt 9 (.take 10 (.done)) .no)))) .no) (.no))) (.alt 8 (.alt 3 (.alt 4 (.take 5 (.take 6 (.take 7 (.alt 9 (.take 10 (.done)) .no)))) .no) .no) (.no))) (.alt 8 (.alt 1 (.alt 3 (.alt 4 (.take 5 (.take 6 (.take 7 (.alt 9 (.take 10 (.done)) .no)))) .no) .no) .no) (.no))))), (6, false, .take 0 (.take 1 (.take 2 (.alt 3 (.alt 4 (.take 5 (.take 6 (.take 7 (.take 8 (.take 9 (.alt 10 (.take 11 (.take 12 (.take 13 (.take 14 (.take 15 (.take 16 (.take 17 (.take 18 (.take 19 (.take 20 (.take 21 (.take 22 (.take 23 (.take 24 (.take 25 (.take 26 (.take 27 (.take 28 (.take 29 (.take 30 (.take 31 (.take 32 (.take 33 (.take 34 (.take 35 (.take 37 (.take 38 (.take 40 (.take 41 (.alt 36 (.alt 39 (.alt 42 (.take 43 (.take 44 (.take 45 (.done)))) .no) .no) .no)))))))))))))))))))))))))))))) .no)))))) .no) .no)))), (12, false, .take 0 (.alt 1 (.take 2 (.take 3 (.take 4 (.take 6 (.alt 5 (.alt 7 (.take 8 (.take 9 (.take 10 (.done)))) .no) .no))))) .no)), (13, false, .take 0 (.take 2 (.alt 1 (.take 3 (.take 4 (.take 5 (.take 6 (.alt 7 (.take 8 (.take 9 (.take 10 (.take 11 (.take 12 (.take 13 (.take 14 (.take 15 (.take 16 (.take 17 (.take 18 (.take 19 (.take 20 (.take 21 (.take 22 (.take 23 (.take 24 (.take 25 (.take 26 (.take 27 (.take 28 (.take 29 (.take 30 (.take 31 (.take 32 (.take 33 (.take 35 (.take 36 (.take 38 (.take 39 (.alt 34 (.alt 37 (.alt 40 (.take 41 (.take 42 (.take 43 (.take 44 (.done))))) .no) .no) .no))))))))))))))))))))))))))))))) .no))))) .no)))] ∧ ∀ d, (cx_law15_SpanParts.ob).contains d = false := ⟨rfl, rfl, rfl, rfl, rfl, rfl, fun _ => rfl⟩
theorem cok_law15_SpanParts : COk Try.prog (cx_law15_SpanParts) := cok_of rfl (.cons ok_law15_awake (.cons ok_span_Halves (.cons ok_span_Take (.cons ok_span_Right (.cons ok_span_Len (.cons ok_span_Has (.cons ok_span_Meet (.cons ok_wide_Sub (.cons ok_wide_Cmp (.cons ok_wide_Of (.nil))))))))))) (.cons (fun _ => fn0_quiet) (.cons (fun _ => fn1_quiet) (.cons (fun _ => fn2_quiet) (.cons (fun _ => fn1_quiet) (.cons (fun _ => fn1_quiet) (.cons (fun _ => fn2_quiet) (.cons (fun _ => fn2_quiet) (.cons (fun _ => fn2_quiet) (.cons (fun _ => fn2_quiet) (.cons (fun _ => fn1_quiet) (.nil))))))))))) (.nil)
set_option maxHeartbeats 4000000 in
theorem ok_law15_SpanParts : Ok Try.prog 4 c_law15_SpanParts := by
  refine ok_fn3 cok_law15_SpanParts mixed Try.func4 rfl (by kernel_rfl) (by kernel_rfl) rfl ?_
  intro s at' n om hw _
  obtain ⟨w1, w2⟩ := wf_2 hw
  have d1 := tW_lit (l := 1) (by omega)
  have part : ∀ m, s.a ≤ m → m ≤ s.b → decide (s.a ≤ at' ∧ at' < s.b) = (decide (s.a ≤ at' ∧ at' < m) != decide (m ≤ at' ∧ at' < s.b)) := fun m h1 h2 => by
    by_cases c1 : at' < m
    · rw [show decide (m ≤ at' ∧ at' < s.b) = false from decide_eq_false (by omega)]
      by_cases c2 : s.a ≤ at'
      · rw [decide_eq_true (by omega : s.a ≤ at' ∧ at' < s.b), decide_eq_true (by omega : s.a ≤ at' ∧ at' < m)]; rfl
      · rw [decide_eq_false (by omega : ¬ (s.a ≤ at' ∧ at' < s.b)), decide_eq_false (by omega : ¬ (s.a ≤ at' ∧ at' < m))]; rfl
    · rw [show decide (s.a ≤ at' ∧ at' < m) = false from decide_eq_false (by omega)]
      by_cases c2 : at' < s.b
      · rw [decide_eq_true (by omega : s.a ≤ at' ∧ at' < s.b), decide_eq_true (by omega : m ≤ at' ∧ at' < s.b)]; rfl
      · rw [decide_eq_false (by omega : ¬ (s.a ≤ at' ∧ at' < s.b)), decide_eq_false (by omega : ¬ (m ≤ at' ∧ at' < s.b))]; rfl
  by_cases c1 : s.b < s.a
  · have e : halve s = (⟨0, 0⟩, ⟨0, 0⟩, 1) := by unfold halve; rw [if_pos c1]; rfl
    have e' : takes s n = (⟨0, 0⟩, ⟨0, 0⟩, 1) := by unfold takes; rw [if_pos c1]; rfl
    have c1' : (s.a ≤ s.b) = False := eq_false (by omega)
    simp (maxSteps := 10000000) only [go_sem, Try.f4, kn1, kn2, kn3, kn4, kn5, kn6, kn7, kn8, kn9, kz1, kz2, kz3, kz4, kz5, kz6, kz7, kz8, kz9, kz0, reduceCtorEq, String.reduceEq, kn0, kq1, kq2, kq3, kq4, Int.toNat_natCast, e, e', c1', d1]
  have c1' : (s.a ≤ s.b) = True := eq_true (by omega)
  have ht : ¬ s.b - s.a < n → takes s n = (⟨s.a, s.a + n⟩, ⟨s.a + n, s.b⟩, 0) := fun h => by unfold takes; rw [if_neg c1, if_neg h]
  have ht' : s.b - s.a < n → takes s n = (⟨0, 0⟩, ⟨0, 0⟩, 7) := fun h => by unfold takes; rw [if_neg c1, if_pos h]; rfl
  have m1 : ∀ m, meets ⟨s.a, m⟩ ⟨m, s.b⟩ = False := fun m => eq_false (by unfold meets; simp only; omega)
  have ln : s.a + n - s.a = n := by omega
  by_cases c2 : s.b - s.a < 2
  · have e : halve s = (⟨0, 0⟩, ⟨0, 0⟩, 6) := by unfold halve; rw [if_neg c1, if_pos c2]; rfl
    have c2' : (1 < s.b - s.a) = False := eq_false (by omega)
    by_cases c3 : s.b - s.a < n
    · have c3' : (s.b - s.a < n) = True := eq_true c3
      simp (maxSteps := 10000000) only [go_sem, Try.f4, kn1, kn2, kn3, kn4, kn5, kn6, kn7, kn8, kn9, kz1, kz2, kz3, kz4, kz5, kz6, kz7, kz8, kz9, kz0, reduceCtorEq, String.reduceEq, kn0, kq1, kq2, kq3, kq4, Int.toNat_natCast, e, ht' c3, c1', c2', c3', d1, cmpN_gt', cmpN_lt']
      try (intros; trivial)
    · have p2 := part (s.a + n) (by omega) (by omega)
      simp (maxSteps := 10000000) only [go_sem, Try.f4, kn1, kn2, kn3, kn4, kn5, kn6, kn7, kn8, kn9, kz1, kz2, kz3, kz4, kz5, kz6, kz7, kz8, kz9, kz0, reduceCtorEq, String.reduceEq, kn0, kq1, kq2, kq3, kq4, Int.toNat_natCast, e, ht c3, c1', c2', d1, cmpN_gt', cmpN_lt', m1, ln]
      intros
      rw [← p2]; exact beq_self_eq_true _
  have p1 := part (s.a + (s.b - s.a + 1) / 2) (by omega) (by omega)
  have q1 : (decide (s.a ≤ at' ∧ at' < s.b) != (decide (s.a ≤ at' ∧ at' < s.a + (s.b - s.a + 1) / 2) != decide (s.a + (s.b - s.a + 1) / 2 ≤ at' ∧ at' < s.b))) = false := by rw [← p1]; exact bne_self_eq_false _
  have e : halve s = (⟨s.a, s.a + (s.b - s.a + 1) / 2⟩, ⟨s.a + (s.b - s.a + 1) / 2, s.b⟩, 0) := by unfold halve; rw [if_neg c1, if_neg c2]
  have l1 : s.a + (s.b - s.a + 1) / 2 - s.a = (s.b - s.a + 1) / 2 := by omega
  have l2 : ((s.b - s.a + 1) / 2 < s.b - (s.a + (s.b - s.a + 1) / 2)) = False := eq_false (by omega)
  have l3 : (1 < ((s.b - s.a + 1) / 2 + 340282366920938463463374607431768211456 - (s.b - (s.a + (s.b - s.a + 1) / 2))) % 340282366920938463463374607431768211456) = False := eq_false (by omega)
  by_cases c3 : s.b - s.a < n
  · have c3' : (s.b - s.a < n) = True := eq_true c3
    simp (maxSteps := 10000000) only [go_sem, Try.f4, kn1, kn2, kn3, kn4, kn5, kn6, kn7, kn8, kn9, kz1, kz2, kz3, kz4, kz5, kz6, kz7, kz8, kz9, kz0, reduceCtorEq, String.reduceEq, kn0, kq1, kq2, kq3, kq4, Int.toNat_natCast, e, ht' c3, c1', c3', d1, cmpN_gt', cmpN_lt', m1, l1, l2, l3, q1]
  · have p2 := part (s.a + n) (by omega) (by omega)
    simp (maxSteps := 10000000) only [go_sem, Try.f4, kn1, kn2, kn3, kn4, kn5, kn6, kn7, kn8, kn9, kz1, kz2, kz3, kz4, kz5, kz6, kz7, kz8, kz9, kz0, reduceCtorEq, String.reduceEq, kn0, kq1, kq2, kq3, kq4, Int.toNat_natCast, e, ht c3, c1', d1, cmpN_gt', cmpN_lt', m1, ln, l1, l2, l3, q1]
    intros
    rw [← p2]; exact beq_self_eq_true _
end Go.Proofs.Ytlcnohmnemmbdaa.I
