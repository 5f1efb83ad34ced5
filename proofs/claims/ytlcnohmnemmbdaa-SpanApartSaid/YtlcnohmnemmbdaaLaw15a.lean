/- Chapter 15: SpanApart, as a contract. -/
import Derived.Test.YtlcnohmnemmbdaaSpan12
import Derived.Test.YtlcnohmnemmbdaaMeas2
namespace Go.Proofs.Ytlcnohmnemmbdaa.I
open Go
open Nat renaming reduceEqDiff → kn1, reduceBEq → kn2, reducePow → kn3, reduceMod → kn4, reduceAdd → kn5, reduceSub → kn6, reduceMul → kn7, reduceDiv → kn8, reduceLeDiff → kn9, reduceLT → kn0, zero_lt_one → kq1, zero_add → kq2, zero_le → kq3, le_refl → kq4
open Int renaming reduceToNat → kz1, reduceAdd → kz2, reduceSub → kz3, reduceMul → kz4, reduceDiv → kz5, reduceMod → kz6, reduceLE → kz7, reduceLT → kz8, reduceNeg → kz9, reduceEq → kz0
set_option maxRecDepth 10000
set_option linter.unusedSimpArgs false
set_option linter.unusedVariables false

@[go_sem] noncomputable def c_law15_SpanApart : Cn := fn2 (tL t2) tW (fun _ _ => True) fun _ _ => .b true
noncomputable def cx_law15_SpanApart : Cx := { T := T, E := E, cs := [(7, c_law15_awake), (13, c_span_Right), (15, c_span_Len), (17, c_span_Has), (21, c_span_Apart), (25, c_span_Twice), (27, c_span_Cover), (32, c_wide_Add)], sch := [(10, false, .take 0 (.take 1 (.alt 2 (.alt 3 (.take 4 (.take 5 (.take 6 (.alt 7 (.take 8 (.done)) .no)))) .no) .no))), (17, false, .take 0 (.take 1 (.take 2 (.take 3 (.take 4 (.take 5 (.take 6 (.take 8 (.alt 7 (.take 9 (.take 10 (.take 11 (.take 12 (.take 13 (.take 14 (.take 15 (.take 16 (.take 17 (.take 18 (.take 19 (.take 20 (.take 21 (.take 22 (.take 23 (.take 24 (.take 25 (.take 26 (.done))))))))))))))))))) .no)))))))))], ob := [], qs := [7, 13, 15, 17, 21, 25, 27, 32] }
@[go_sem] theorem cx_law15_SpanApart_e : cx_law15_SpanApart.gs = none ∧ cx_law15_SpanApart.md = 0 ∧ cx_law15_SpanApart.T = T ∧ cx_law15_SpanApart.E = E ∧ cx_law15_SpanApart.cs = [(7, c_law15_awake), (13, c_span_Right), (15, c_span_Len), (17, c_span_Has), (21, c_span_Apart), (25, c_span_Twice), (27, c_span_Cover), (32, c_wide_Add)] ∧ cx_law15_SpanApart.sch = [(10, false, .take 0 (.take 1 (.alt 2 (.alt 3 (.take 4 (.take 5 (.take 6 (.alt 7 (.take 8 (.done)) .no)))) .no) .no))), (17, false, .take 0 (.take 1 (.take 2 (.take 3 (.take 4 (.take 5 (.take 6 (.take 8 (.alt 7 (.take 9 (.take 10 (.take 11 (.take 12 (.take 13 (.take 14 (.take 15 (.take 16 (.take 17 (.take 18 (.take 19 (.take 20 (.take 21 (.take 22 (.take 23 (.take 24 (.take 25 (.take 26 (.done))))))))))))))))))) .no)))))))))] ∧ ∀ d, (cx_law15_SpanApart.ob).contains d = false := ⟨rfl, rfl, rfl, rfl, rfl, rfl, fun _ => rfl⟩
theorem cok_law15_SpanApart : COk Try.prog (cx_law15_SpanApart) := cok_of rfl (.cons ok_law15_awake (.cons ok_span_Right (.cons ok_span_Len (.cons ok_span_Has (.cons ok_span_Apart (.cons ok_span_Twice (.cons ok_span_Cover (.cons ok_wide_Add (.nil))))))))) (.cons (fun _ => fn0_quiet) (.cons (fun _ => fn1_quiet) (.cons (fun _ => fn1_quiet) (.cons (fun _ => fn2_quiet) (.cons (fun _ => fn1_quiet) (.cons (fun _ => fn1_quiet) (.cons (fun _ => fn1_quiet) (.cons (fun _ => fn2_quiet) (.nil))))))))) (.nil)
set_option maxHeartbeats 4000000 in
theorem ok_law15_SpanApart : Ok Try.prog 5 c_law15_SpanApart := by
  refine ok_fn2 cok_law15_SpanApart mixed Try.func5 rfl (by kernel_rfl) (by kernel_rfl) rfl ?_
  intro l n om hw _
  have hb := wf_e2 hw
  rw [longest_eq] at hb
  by_cases c0 : 30 < l.length
  · have c0' : ((30 : Int) < (l.length : Int)) = True := eq_true (by omega)
    simp (maxSteps := 10000000) only [go_sem, Try.f5, kn1, kn2, kn3, kn4, kn5, kn6, kn7, kn8, kn9, kz1, kz2, kz3, kz4, kz5, kz6, kz7, kz8, kz9, kz0, reduceCtorEq, String.reduceEq, kn0, kq1, kq2, kq3, kq4, Int.toNat_natCast, c0']
  have c0' : ((30 : Int) < (l.length : Int)) = False := eq_false (by omega)
  simp (maxSteps := 10000000) only [go_sem, Try.f5, kn1, kn2, kn3, kn4, kn5, kn6, kn7, kn8, kn9, kz1, kz2, kz3, kz4, kz5, kz6, kz7, kz8, kz9, kz0, reduceCtorEq, String.reduceEq, kn0, kq1, kq2, kq3, kq4, Int.toNat_natCast, c0']
  refine ⟨Nat, fun k => ⟨[.sl (els v2 l), .u, .u, .ref 3 1 2 0 0, .b false, .ref 5 1 2 0 0, .b (decide (340282366920938463463374607431768211456 ≤ sumL (l.take k))), .b ((l.take k).all fun s => decide (s.a ≤ s.b)), .z (hadN n (l.take k)), .u, .u, .u, .u, .u, .u, .u, .u, .u, .u, .u, .u, .sl (els v2 l), .z l.length, .z k, .u, .u, .u, .u, .u, .u, .u, .u, .u, .u, .u, .u, .u, .u, .u, .u, .u, .u, .u, .u, .u, .u, .u, .u, .u, .u, .u, .u, .u, .u, .u, .u, .u, .u, .u, .u, .u, .u, .u, .u, .u, .u, .u, .u, .u, .u, .u, .u, .u, .u, .u, .u, .u, .u, .u, .u, .u, .u, .u, .u, .u, .u, .u, .u, .u, .u, .u, .u, .u], [(5, ⟨2, true, [vW (sumL (l.take k) % 340282366920938463463374607431768211456)], false⟩), (3, ⟨2, true, [vW n], false⟩)], om⟩, fun k => k ≤ l.length, fun k => l.length - k, ⟨0, Nat.zero_le _, ?_⟩, ?_⟩
  · simp only [go_sem, kn1, kn2, kn3, kn4, kn5, kn6, kn7, kn8, kn9, kz1, kz2, kz3, kz4, kz5, kz6, kz7, kz8, kz9, kz0, reduceCtorEq, String.reduceEq, kn0, kq1, kq2, kq3, kq4, Int.toNat_natCast, sumL, hadN, List.map_nil, List.sum_nil, List.countP_nil]
  · intro k hk
    by_cases c : k < l.length
    · have c' : ((k : Int) < (l.length : Int)) = True := eq_true (by omega)
      obtain ⟨S, hS⟩ : ∃ S, l.getD k z2 = S := ⟨_, rfl⟩
      have tk := take_snoc2 c
      rw [hS] at tk
      have wS : S.wf := hS ▸ wf_fl hb.2 k
      have e1 : sumL (l.take (k + 1)) = sumL (l.take k) + (S.b - S.a) := by rw [tk, sumL_snoc]
      have e2 : ((l.take (k + 1)).all fun s => decide (s.a ≤ s.b)) = (((l.take k).all fun s => decide (s.a ≤ s.b)) && decide (S.a ≤ S.b)) := by rw [tk]; simp
      have e3 : hadN n (l.take (k + 1)) = hadN n (l.take k) + (if S.a ≤ n ∧ n < S.b then 1 else 0) := by rw [tk]; simp [hadN, List.countP_append, List.countP_cons]
      have hn : hadN n (l.take k) ≤ k := by
        have h1 : hadN n (l.take k) ≤ (l.take k).length := List.countP_le_length
        have h2 := List.length_take_le k l
        omega
      obtain ⟨o, ho⟩ : ∃ o, decide (340282366920938463463374607431768211456 ≤ sumL (l.take k)) = o := ⟨_, rfl⟩
      obtain ⟨r, hr⟩ : ∃ r, ((l.take k).all fun s => decide (s.a ≤ s.b)) = r := ⟨_, rfl⟩
      obtain ⟨X, hX⟩ : ∃ X, sumL (l.take k) = X := ⟨_, rfl⟩
      obtain ⟨Y, hY⟩ : ∃ Y, hadN n (l.take k) = Y := ⟨_, rfl⟩
      rw [hX] at e1 ho
      rw [hY] at e3 hn
      rw [hr] at e2
      have wb := wS.1
      have wc := wS.2
      have m1 : (X % 340282366920938463463374607431768211456 + (S.b - S.a)) % 340282366920938463463374607431768211456 = (X + (S.b - S.a)) % 340282366920938463463374607431768211456 := by omega
      by_cases hs : S.a ≤ n ∧ n < S.b
      · have hs' := eq_true hs
        rw [if_pos hs] at e3
        cases o <;> cases r
        all_goals
          simp (maxSteps := 10000000) only [go_sem, kn1, kn2, kn3, kn4, kn5, kn6, kn7, kn8, kn9, kz1, kz2, kz3, kz4, kz5, kz6, kz7, kz8, kz9, kz0, reduceCtorEq, String.reduceEq, kn0, kq1, kq2, kq3, kq4, Int.toNat_natCast, c', e2_get, hS, hX, hY, ho, hr, hs', m1]
        all_goals
          refine ⟨by omega, fun _ _ => ?_⟩
          first
            | refine ⟨by omega, by omega, k + 1, by omega, ?_, by omega⟩
            | refine ⟨by omega, k + 1, by omega, ?_, by omega⟩
          rw [e1, e2, e3]
          refine ⟨⟨?_, ?_, by omega, by omega⟩, rfl, rfl⟩
          · first
              | exact decide_eq_decide.2 (by have := of_decide_eq_false ho; omega)
              | exact (decide_eq_true (by have := of_decide_eq_true ho; omega)).symm
          · first | rfl | simp
      · have hs' := eq_false hs
        rw [if_neg hs] at e3
        cases o <;> cases r
        all_goals
          simp (maxSteps := 10000000) only [go_sem, kn1, kn2, kn3, kn4, kn5, kn6, kn7, kn8, kn9, kz1, kz2, kz3, kz4, kz5, kz6, kz7, kz8, kz9, kz0, reduceCtorEq, String.reduceEq, kn0, kq1, kq2, kq3, kq4, Int.toNat_natCast, c', e2_get, hS, hX, hY, ho, hr, hs', m1]
        all_goals
          refine ⟨by omega, fun _ _ => ?_⟩
          first
            | refine ⟨by omega, by omega, k + 1, by omega, ?_, by omega⟩
            | refine ⟨by omega, k + 1, by omega, ?_, by omega⟩
          rw [e1, e2, e3]
          refine ⟨⟨?_, ?_, by omega, by omega⟩, rfl, rfl⟩
          · first
              | exact decide_eq_decide.2 (by have := of_decide_eq_false ho; omega)
              | exact (decide_eq_true (by have := of_decide_eq_true ho; omega)).symm
          · first | rfl | simp
    · have c' : ((k : Int) < (l.length : Int)) = False := eq_false (by omega)
      have ek : k = l.length := by omega
      subst ek
      have h30 : (l.length ≤ 30) := by omega
      have tl : twice l = twice l := rfl
      have lt : (twice l).length ≤ 1000 ∨ True := .inr trivial
      have cl := covr_le (l := l) (N := 340282366920938463463374607431768211455) fun s hs => by have := (hb.2 s hs).2; omega
      by_cases hA : apart l
      · have a1 := apartB_yes hA
        have a2 : (l.all fun s => decide (s.a ≤ s.b)) = true := by simpa using hA.1
        have a3 : sumL l = covr l := (covr_sum.2 hA.2).symm
        have a4 : (340282366920938463463374607431768211456 ≤ covr l) = False := eq_false (by omega)
        have a5 : covr l % 340282366920938463463374607431768211456 = covr l := Nat.mod_eq_of_lt (by omega)
        have a6 : ((1 : Int) < (hadN n l : Int)) = False := eq_false (by have := had_le hA.2 n; omega)
        simp (maxSteps := 10000000) only [go_sem, kn1, kn2, kn3, kn4, kn5, kn6, kn7, kn8, kn9, kz1, kz2, kz3, kz4, kz5, kz6, kz7, kz8, kz9, kz0, reduceCtorEq, String.reduceEq, kn0, kq1, kq2, kq3, kq4, Int.toNat_natCast, c', List.take_length, a1, a2, a3, a4, a5, a6, bne_self_eq_false]
        refine ⟨h30, h30, fun _ => ⟨by omega, fun tw => ⟨Nat, fun k => ⟨[.u, .u, .u, .u, .b false, .u, .u, .u, .u, .u, .u, .u, .b true, .u, .u, .u, .u, .u, .u, .u, .u, .u, .u, .u, .u, .u, .u, .u, .u, .u, .u, .u, .u, .u, .u, .u, .u, .u, .u, .u, .u, .u, .u, .u, .u, .u, .u, .u, .u, .u, .u, .u, .u, .u, .u, .u, .u, .u, .u, .u, .u, .u, .u, .u, .u, .u, .u, .u, .u, .u, .u, .u, .u, .u, .u, .u, .u, .u, .u, .sl (els v2 (twice l)), .z (twice l).length, .z k, .u, .u, .u, .u, .u, .u, .u, .u, .u, .u, .u], [], om⟩, fun k => k ≤ (twice l).length, fun k => (twice l).length - k, ⟨0, Nat.zero_le _, ?_⟩, ?_⟩⟩⟩
        · simp only [go_sem, kn1, kn2, kn3, kn4, kn5, kn6, kn7, kn8, kn9, kz1, kz2, kz3, kz4, kz5, kz6, kz7, kz8, kz9, kz0, reduceCtorEq, String.reduceEq, kn0, kq1, kq2, kq3, kq4, Int.toNat_natCast]
        · intro k hk
          have tw1 := tw.1
          by_cases c3 : k < (twice l).length
          · have c3' : ((k : Int) < ((twice l).length : Int)) = True := eq_true (by omega)
            have em : ((twice l).getD k z2).b - ((twice l).getD k z2).a = 0 := by rw [List.getD_eq_getElem?_getD, List.getElem?_eq_getElem c3]; exact twice_emp hA.2 (List.getElem_mem c3)
            simp (maxSteps := 10000000) only [go_sem, kn1, kn2, kn3, kn4, kn5, kn6, kn7, kn8, kn9, kz1, kz2, kz3, kz4, kz5, kz6, kz7, kz8, kz9, kz0, reduceCtorEq, String.reduceEq, kn0, kq1, kq2, kq3, kq4, Int.toNat_natCast, c3', e2_get, em]
            exact ⟨by omega, by omega, k + 1, by omega, by omega, by omega⟩
          · have c3' : ((k : Int) < ((twice l).length : Int)) = False := eq_false (by omega)
            simp (maxSteps := 10000000) only [go_sem, kn1, kn2, kn3, kn4, kn5, kn6, kn7, kn8, kn9, kz1, kz2, kz3, kz4, kz5, kz6, kz7, kz8, kz9, kz0, reduceCtorEq, String.reduceEq, kn0, kq1, kq2, kq3, kq4, Int.toNat_natCast, c3']
      · have a1 := apartB_no hA
        by_cases hs : 340282366920938463463374607431768211456 ≤ sumL l
        · have hs' := eq_true hs
          simp (maxSteps := 10000000) only [go_sem, kn1, kn2, kn3, kn4, kn5, kn6, kn7, kn8, kn9, kz1, kz2, kz3, kz4, kz5, kz6, kz7, kz8, kz9, kz0, reduceCtorEq, String.reduceEq, kn0, kq1, kq2, kq3, kq4, Int.toNat_natCast, c', List.take_length, a1, hs', bne_self_eq_false]
          refine ⟨h30, by omega, fun tw => ⟨Nat, fun k => ⟨[.u, .u, .u, .u, .b false, .u, .u, .u, .u, .u, .u, .u, .b false, .u, .u, .u, .u, .u, .u, .u, .u, .u, .u, .u, .u, .u, .u, .u, .u, .u, .u, .u, .u, .u, .u, .u, .u, .u, .u, .u, .u, .u, .u, .u, .u, .u, .u, .u, .u, .u, .u, .u, .u, .u, .u, .u, .u, .u, .u, .u, .u, .u, .u, .u, .u, .u, .u, .u, .u, .u, .u, .u, .u, .u, .u, .u, .u, .u, .u, .sl (els v2 (twice l)), .z (twice l).length, .z k, .u, .u, .u, .u, .u, .u, .u, .u, .u, .u, .u], [], om⟩, fun k => k ≤ (twice l).length, fun k => (twice l).length - k, ⟨0, Nat.zero_le _, ?_⟩, ?_⟩⟩
          · simp only [go_sem, kn1, kn2, kn3, kn4, kn5, kn6, kn7, kn8, kn9, kz1, kz2, kz3, kz4, kz5, kz6, kz7, kz8, kz9, kz0, reduceCtorEq, String.reduceEq, kn0, kq1, kq2, kq3, kq4, Int.toNat_natCast]
          · intro k hk
            have tw1 := tw.1
            by_cases c3 : k < (twice l).length
            · have c3' : ((k : Int) < ((twice l).length : Int)) = True := eq_true (by omega)
              simp (maxSteps := 10000000) only [go_sem, kn1, kn2, kn3, kn4, kn5, kn6, kn7, kn8, kn9, kz1, kz2, kz3, kz4, kz5, kz6, kz7, kz8, kz9, kz0, reduceCtorEq, String.reduceEq, kn0, kq1, kq2, kq3, kq4, Int.toNat_natCast, c3', e2_get]
              exact ⟨by omega, by omega, k + 1, by omega, by omega, by omega⟩
            · have c3' : ((k : Int) < ((twice l).length : Int)) = False := eq_false (by omega)
              simp (maxSteps := 10000000) only [go_sem, kn1, kn2, kn3, kn4, kn5, kn6, kn7, kn8, kn9, kz1, kz2, kz3, kz4, kz5, kz6, kz7, kz8, kz9, kz0, reduceCtorEq, String.reduceEq, kn0, kq1, kq2, kq3, kq4, Int.toNat_natCast, c3']
        · have hs' := eq_false hs
          have a5 : sumL l % 340282366920938463463374607431768211456 = sumL l := Nat.mod_eq_of_lt (by omega)
          by_cases hR : (l.all fun s => decide (s.a ≤ s.b)) = true
          · have a7 : ¬ covr l = sumL l := fun e => hA ⟨by simpa using hR, covr_sum.1 e⟩
            have a8 : (covr l / 18446744073709551616 = sumL l / 18446744073709551616 ∧ covr l % 18446744073709551616 = sumL l % 18446744073709551616) = False := eq_false fun h => a7 (by omega)
            simp (maxSteps := 10000000) only [go_sem, kn1, kn2, kn3, kn4, kn5, kn6, kn7, kn8, kn9, kz1, kz2, kz3, kz4, kz5, kz6, kz7, kz8, kz9, kz0, reduceCtorEq, String.reduceEq, kn0, kq1, kq2, kq3, kq4, Int.toNat_natCast, c', List.take_length, a1, hs', a5, hR, a8, bne_self_eq_false]
            refine ⟨h30, h30, fun _ => ⟨by omega, fun tw => ⟨Nat, fun k => ⟨[.u, .u, .u, .u, .b false, .u, .u, .u, .u, .u, .u, .u, .b false, .u, .u, .u, .u, .u, .u, .u, .u, .u, .u, .u, .u, .u, .u, .u, .u, .u, .u, .u, .u, .u, .u, .u, .u, .u, .u, .u, .u, .u, .u, .u, .u, .u, .u, .u, .u, .u, .u, .u, .u, .u, .u, .u, .u, .u, .u, .u, .u, .u, .u, .u, .u, .u, .u, .u, .u, .u, .u, .u, .u, .u, .u, .u, .u, .u, .u, .sl (els v2 (twice l)), .z (twice l).length, .z k, .u, .u, .u, .u, .u, .u, .u, .u, .u, .u, .u], [], om⟩, fun k => k ≤ (twice l).length, fun k => (twice l).length - k, ⟨0, Nat.zero_le _, ?_⟩, ?_⟩⟩⟩
            · simp only [go_sem, kn1, kn2, kn3, kn4, kn5, kn6, kn7, kn8, kn9, kz1, kz2, kz3, kz4, kz5, kz6, kz7, kz8, kz9, kz0, reduceCtorEq, String.reduceEq, kn0, kq1, kq2, kq3, kq4, Int.toNat_natCast]
            · intro k hk
              have tw1 := tw.1
              by_cases c3 : k < (twice l).length
              · have c3' : ((k : Int) < ((twice l).length : Int)) = True := eq_true (by omega)
                simp (maxSteps := 10000000) only [go_sem, kn1, kn2, kn3, kn4, kn5, kn6, kn7, kn8, kn9, kz1, kz2, kz3, kz4, kz5, kz6, kz7, kz8, kz9, kz0, reduceCtorEq, String.reduceEq, kn0, kq1, kq2, kq3, kq4, Int.toNat_natCast, c3', e2_get]
                exact ⟨by omega, by omega, k + 1, by omega, by omega, by omega⟩
              · have c3' : ((k : Int) < ((twice l).length : Int)) = False := eq_false (by omega)
                simp (maxSteps := 10000000) only [go_sem, kn1, kn2, kn3, kn4, kn5, kn6, kn7, kn8, kn9, kz1, kz2, kz3, kz4, kz5, kz6, kz7, kz8, kz9, kz0, reduceCtorEq, String.reduceEq, kn0, kq1, kq2, kq3, kq4, Int.toNat_natCast, c3']
          · have hR' : (l.all fun s => decide (s.a ≤ s.b)) = false := by simpa using hR
            simp (maxSteps := 10000000) only [go_sem, kn1, kn2, kn3, kn4, kn5, kn6, kn7, kn8, kn9, kz1, kz2, kz3, kz4, kz5, kz6, kz7, kz8, kz9, kz0, reduceCtorEq, String.reduceEq, kn0, kq1, kq2, kq3, kq4, Int.toNat_natCast, c', List.take_length, a1, hs', a5, hR', bne_self_eq_false]
            refine ⟨h30, by omega, fun tw => ⟨Nat, fun k => ⟨[.u, .u, .u, .u, .b false, .u, .u, .u, .u, .u, .u, .u, .b false, .u, .u, .u, .u, .u, .u, .u, .u, .u, .u, .u, .u, .u, .u, .u, .u, .u, .u, .u, .u, .u, .u, .u, .u, .u, .u, .u, .u, .u, .u, .u, .u, .u, .u, .u, .u, .u, .u, .u, .u, .u, .u, .u, .u, .u, .u, .u, .u, .u, .u, .u, .u, .u, .u, .u, .u, .u, .u, .u, .u, .u, .u, .u, .u, .u, .u, .sl (els v2 (twice l)), .z (twice l).length, .z k, .u, .u, .u, .u, .u, .u, .u, .u, .u, .u, .u], [], om⟩, fun k => k ≤ (twice l).length, fun k => (twice l).length - k, ⟨0, Nat.zero_le _, ?_⟩, ?_⟩⟩
            · simp only [go_sem, kn1, kn2, kn3, kn4, kn5, kn6, kn7, kn8, kn9, kz1, kz2, kz3, kz4, kz5, kz6, kz7, kz8, kz9, kz0, reduceCtorEq, String.reduceEq, kn0, kq1, kq2, kq3, kq4, Int.toNat_natCast]
            · intro k hk
              have tw1 := tw.1
              by_cases c3 : k < (twice l).length
              · have c3' : ((k : Int) < ((twice l).length : Int)) = True := eq_true (by omega)
                simp (maxSteps := 10000000) only [go_sem, kn1, kn2, kn3, kn4, kn5, kn6, kn7, kn8, kn9, kz1, kz2, kz3, kz4, kz5, kz6, kz7, kz8, kz9, kz0, reduceCtorEq, String.reduceEq, kn0, kq1, kq2, kq3, kq4, Int.toNat_natCast, c3', e2_get]
                exact ⟨by omega, by omega, k + 1, by omega, by omega, by omega⟩
              · have c3' : ((k : Int) < ((twice l).length : Int)) = False := eq_false (by omega)
                simp (maxSteps := 10000000) only [go_sem, kn1, kn2, kn3, kn4, kn5, kn6, kn7, kn8, kn9, kz1, kz2, kz3, kz4, kz5, kz6, kz7, kz8, kz9, kz0, reduceCtorEq, String.reduceEq, kn0, kq1, kq2, kq3, kq4, Int.toNat_natCast, c3']
end Go.Proofs.Ytlcnohmnemmbdaa.I
