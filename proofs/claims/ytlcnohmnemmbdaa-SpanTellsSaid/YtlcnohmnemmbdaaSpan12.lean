/- Chapter 15: Own, awake. -/
import Derived.Test.YtlcnohmnemmbdaaSpan2
import Derived.Test.YtlcnohmnemmbdaaSpan10
import Derived.Test.YtlcnohmnemmbdaaSpan11
namespace Go.Proofs.Ytlcnohmnemmbdaa.I
open Go
open Nat renaming reduceEqDiff → kn1, reduceBEq → kn2, reducePow → kn3, reduceMod → kn4, reduceAdd → kn5, reduceSub → kn6, reduceMul → kn7, reduceDiv → kn8, reduceLeDiff → kn9, reduceLT → kn0, zero_lt_one → kq1, zero_add → kq2, zero_le → kq3, le_refl → kq4
open Int renaming reduceToNat → kz1, reduceAdd → kz2, reduceSub → kz3, reduceMul → kz4, reduceDiv → kz5, reduceMod → kz6, reduceLE → kz7, reduceLT → kz8, reduceNeg → kz9, reduceEq → kz0
set_option maxRecDepth 10000
set_option linter.unusedSimpArgs false
set_option linter.unusedVariables false

@[go_sem] noncomputable def c_law15_Own : Cn := fn1 (tL t2) (fun l => l.length ≤ 1000) fun l => .sl (els v2 l)
noncomputable def cx_law15_Own : Cx := { T := T, E := E, cs := [(10, c_law15_One)], sch := [], ob := [], qs := [10] }
@[go_sem] theorem cx_law15_Own_e : cx_law15_Own.gs = none ∧ cx_law15_Own.md = 0 ∧ cx_law15_Own.T = T ∧ cx_law15_Own.E = E ∧ cx_law15_Own.cs = [(10, c_law15_One)] ∧ ∀ d, (cx_law15_Own.ob).contains d = false := ⟨rfl, rfl, rfl, rfl, rfl, fun _ => rfl⟩
theorem cok_law15_Own : COk Try.prog (cx_law15_Own) := cok_of rfl (.cons ok_law15_One (.nil)) (.cons (fun _ => fn1_quiet) (.nil)) (.nil)
theorem ok_law15_Own : Ok Try.prog 23 c_law15_Own := by
  refine ok_fn1 cok_law15_Own mixed Try.func23 rfl (by kernel_rfl) (by kernel_rfl) rfl ?_
  intro l om hw hl
  simp only [go_sem, Try.f23, kn1, kn2, kn3, kn4, kn5, kn6, kn7, kn8, kn9, kz1, kz2, kz3, kz4, kz5, kz6, kz7, kz8, kz9, kz0, reduceCtorEq, String.reduceEq, kn0, kq1, kq2, kq3, kq4, Int.toNat_natCast]
  refine ⟨Nat, fun k => ⟨[.u, .u, .nils, .row 17 k k, .u, .u, .u, .sl (els v2 l), .z l.length, .z k, .u, .u, .u, .u, .u, .u, .u, .u, .u, .u], [(17, ⟨4, true, els v2 (l.take k), false⟩)], om⟩, fun k => k ≤ l.length, fun k => l.length - k, ⟨0, Nat.zero_le _, ?_⟩, ?_⟩
  · simp only [go_sem, kn1, kn2, kn3, kn4, kn5, kn6, kn7, kn8, kn9, kz1, kz2, kz3, kz4, kz5, kz6, kz7, kz8, kz9, kz0, reduceCtorEq, String.reduceEq, kn0, kq1, kq2, kq3, kq4, Int.toNat_natCast]
  · intro k hk
    by_cases c : k < l.length
    · have c' : ((k : Int) < (l.length : Int)) = True := eq_true (by omega)
      have ml : min k l.length = k := by omega
      have ap : els v2 (l.take k) ++ [V.agg [.n .u64 ((l.getD k z2).a / 18446744073709551616), .n .u64 ((l.getD k z2).a % 18446744073709551616), .n .u64 ((l.getD k z2).b / 18446744073709551616), .n .u64 ((l.getD k z2).b % 18446744073709551616)]] = els v2 (l.take (k + 1)) := by rw [take_snoc2 c, ← els_append]; rfl
      simp only [go_sem, kn1, kn2, kn3, kn4, kn5, kn6, kn7, kn8, kn9, kz1, kz2, kz3, kz4, kz5, kz6, kz7, kz8, kz9, kz0, reduceCtorEq, String.reduceEq, kn0, kq1, kq2, kq3, kq4, Int.toNat_natCast, c', e2_get, List.length_take, ml, ap]
      exact ⟨by omega, fun _ => ⟨by omega, by omega, k + 1, by omega, ⟨⟨rfl, by omega⟩, rfl⟩, by omega⟩⟩
    · have c' : ((k : Int) < (l.length : Int)) = False := eq_false (by omega)
      have ek : k = l.length := by omega
      subst ek
      simp only [go_sem, kn1, kn2, kn3, kn4, kn5, kn6, kn7, kn8, kn9, kz1, kz2, kz3, kz4, kz5, kz6, kz7, kz8, kz9, kz0, reduceCtorEq, String.reduceEq, kn0, kq1, kq2, kq3, kq4, Int.toNat_natCast, c', List.take_length]
@[go_sem] noncomputable def c_ref15_Same : Cn := fn2 (tL t2) (tL t2) (fun _ _ => True) fun l m => .b (decide (l = m))
noncomputable def cx_ref15_Same : Cx := { T := T, E := E, cs := [], sch := [(6, false, .take 0 (.take 1 (.take 2 (.take 3 (.take 4 (.take 5 (.take 6 (.take 7 (.take 8 (.done))))))))))], ob := [], qs := [] }
@[go_sem] theorem cx_ref15_Same_e : cx_ref15_Same.gs = none ∧ cx_ref15_Same.md = 0 ∧ cx_ref15_Same.T = T ∧ cx_ref15_Same.E = E ∧ cx_ref15_Same.cs = [] ∧ cx_ref15_Same.sch = [(6, false, .take 0 (.take 1 (.take 2 (.take 3 (.take 4 (.take 5 (.take 6 (.take 7 (.take 8 (.done))))))))))] ∧ ∀ d, (cx_ref15_Same.ob).contains d = false := ⟨rfl, rfl, rfl, rfl, rfl, rfl, fun _ => rfl⟩
theorem cok_ref15_Same : COk Try.prog (cx_ref15_Same) := cok_of rfl (.nil) (.nil) (.nil)
theorem ok_ref15_Same : Ok Try.prog 24 c_ref15_Same := by
  refine ok_fn2 cok_ref15_Same mixed Try.func24 rfl (by kernel_rfl) (by kernel_rfl) rfl ?_
  intro l m om hw _
  have hb := (wf_e2 hw).1
  rw [longest_eq] at hb
  by_cases c0 : l.length = m.length
  · have c0' : ((l.length : Int) = (m.length : Int)) = True := eq_true (by omega)
    simp only [go_sem, Try.f24, kn1, kn2, kn3, kn4, kn5, kn6, kn7, kn8, kn9, kz1, kz2, kz3, kz4, kz5, kz6, kz7, kz8, kz9, kz0, reduceCtorEq, String.reduceEq, kn0, kq1, kq2, kq3, kq4, Int.toNat_natCast, c0']
    refine ⟨Nat, fun k => ⟨[.sl (els v2 l), .sl (els v2 m), .u, .u, .b false, .z k, .u, .u, .u, .u, .u, .u, .u, .u, .u, .u, .u, .u, .u, .u, .u, .u, .u, .u, .u, .u], [], om⟩, fun k => k ≤ l.length ∧ ∀ j, j < k → l.getD j z2 = m.getD j z2, fun k => l.length - k, ⟨0, ⟨Nat.zero_le _, fun j h => by omega⟩, ?_⟩, ?_⟩
    · simp only [go_sem, kn1, kn2, kn3, kn4, kn5, kn6, kn7, kn8, kn9, kz1, kz2, kz3, kz4, kz5, kz6, kz7, kz8, kz9, kz0, reduceCtorEq, String.reduceEq, kn0, kq1, kq2, kq3, kq4, Int.toNat_natCast]
    · rintro k ⟨hk, hp⟩
      by_cases c : k < l.length
      · have c' : ((k : Int) < (l.length : Int)) = True := eq_true (by omega)
        have e := v2_eq_iff (l.getD k z2) (m.getD k z2)
        simp only [v2_eq, V.agg.injEq, List.cons.injEq, V.n.injEq, true_and, and_true] at e
        by_cases d : l.getD k z2 = m.getD k z2
        · simp only [go_sem, kn1, kn2, kn3, kn4, kn5, kn6, kn7, kn8, kn9, kz1, kz2, kz3, kz4, kz5, kz6, kz7, kz8, kz9, kz0, reduceCtorEq, String.reduceEq, kn0, kq1, kq2, kq3, kq4, Int.toNat_natCast, c', e2_get, d]
          exact ⟨by omega, by omega, by omega, k + 1, ⟨by omega, fun j h => by
            by_cases ej : j = k
            · rw [ej]; exact d
            · exact hp j (by omega)⟩, by omega, by omega⟩
        · have d' := eq_false d
          simp only [go_sem, kn1, kn2, kn3, kn4, kn5, kn6, kn7, kn8, kn9, kz1, kz2, kz3, kz4, kz5, kz6, kz7, kz8, kz9, kz0, reduceCtorEq, String.reduceEq, kn0, kq1, kq2, kq3, kq4, Int.toNat_natCast, c', e2_get, e, d']
          have : decide (l = m) = false := decide_eq_false fun h => d (by rw [h])
          rw [this]
          exact ⟨by omega, by omega, rfl⟩
      · have c' : ((k : Int) < (l.length : Int)) = False := eq_false (by omega)
        have : decide (l = m) = true := decide_eq_true (ext2 c0 fun p => by
          by_cases hpp : p < k
          · exact hp p hpp
          · simp [List.getD_eq_getElem?_getD, show l.length ≤ p by omega, show m.length ≤ p by omega])
        simp only [go_sem, kn1, kn2, kn3, kn4, kn5, kn6, kn7, kn8, kn9, kz1, kz2, kz3, kz4, kz5, kz6, kz7, kz8, kz9, kz0, reduceCtorEq, String.reduceEq, kn0, kq1, kq2, kq3, kq4, Int.toNat_natCast, c', this]
  · have c0' : ((l.length : Int) = (m.length : Int)) = False := eq_false (by omega)
    have : decide (l = m) = false := decide_eq_false fun h => c0 (by rw [h])
    simp only [go_sem, Try.f24, kn1, kn2, kn3, kn4, kn5, kn6, kn7, kn8, kn9, kz1, kz2, kz3, kz4, kz5, kz6, kz7, kz8, kz9, kz0, reduceCtorEq, String.reduceEq, kn0, kq1, kq2, kq3, kq4, Int.toNat_natCast, c0', this]
theorem t2_dec0 {a b : Nat} (ha : a < 18446744073709551616) (hb : b < 18446744073709551616) : t2.dec (.agg [.n .u64 0, .n .u64 a, .n .u64 0, .n .u64 b]) = some ⟨a, b⟩ := by
  have := t2.h1 ⟨a, b⟩
  rw [t2_enc, Nat.div_eq_of_lt ha, Nat.div_eq_of_lt hb, Nat.mod_eq_of_lt ha, Nat.mod_eq_of_lt hb] at this
  exact this
theorem a15_h1 : halve ⟨3, 8⟩ = (⟨3, 6⟩, ⟨6, 8⟩, 0) := by decide
theorem a15_h2 : halve ⟨3, 4⟩ = (⟨0, 0⟩, ⟨0, 0⟩, 6) := by decide
theorem a15_h3 : halve ⟨3, 2⟩ = (⟨0, 0⟩, ⟨0, 0⟩, 1) := by decide
theorem a15_t1 : takes ⟨3, 8⟩ 5 = (⟨3, 8⟩, ⟨8, 8⟩, 0) := by decide
theorem a15_t2 : takes ⟨3, 8⟩ 6 = (⟨0, 0⟩, ⟨0, 0⟩, 7) := by decide
theorem a15_m1 : meets ⟨3, 8⟩ ⟨7, 9⟩ = True := eq_true (by decide)
theorem a15_m2 : meets ⟨3, 8⟩ ⟨8, 9⟩ = False := eq_false (by decide)
theorem a15_m3 : meets ⟨3, 8⟩ ⟨5, 5⟩ = False := eq_false (by decide)
theorem a15_a1 : apartB [⟨3, 8⟩, ⟨1, 3⟩, ⟨5, 5⟩] = true := apartB_yes (by simp [apart, meets])
theorem a15_a2 : apartB [⟨3, 8⟩, ⟨3, 8⟩] = false := apartB_no (by simp [apart, meets])
theorem a15_a3 : apartB [⟨3, 2⟩] = false := apartB_no (by simp [apart])
theorem a15_tw : twice [⟨1, 2⟩, ⟨3, 4⟩, ⟨3, 4⟩, ⟨1, 2⟩, ⟨5, 6⟩] = [⟨1, 2⟩, ⟨3, 4⟩] := by decide
theorem a15_cv : covr [⟨1, 5⟩, ⟨3, 8⟩, ⟨9, 2⟩, ⟨10, 11⟩] = 8 := by
  have := covF_sorted (l := [⟨1, 5⟩, ⟨3, 8⟩, ⟨9, 2⟩, ⟨10, 11⟩]) (ys := [⟨1, 5⟩, ⟨3, 8⟩, ⟨10, 11⟩]) (by rw [show full [⟨1, 5⟩, ⟨3, 8⟩, ⟨9, 2⟩, ⟨10, 11⟩] = [⟨1, 5⟩, ⟨3, 8⟩, ⟨10, 11⟩] by decide]) (by simp [Sorted])
  rw [← this]; decide
@[go_sem] def c_law15_awake : Cn := fn0 (.b true)
noncomputable def cx_law15_awake : Cx := { T := T, E := E, cs := [(8, c_span_Halves), (11, c_span_Take), (13, c_span_Right), (15, c_span_Len), (17, c_span_Has), (19, c_span_Meet), (21, c_span_Apart), (23, c_law15_Own), (24, c_ref15_Same), (25, c_span_Twice), (27, c_span_Cover), (31, c_wide_Of), (33, c_law15_sp)], sch := [(6, false, .take 0 (.alt 1 (.take 2 (.take 3 (.take 4 (.alt 5 (.take 6 (.take 7 (.take 8 (.take 9 (.take 10 (.take 11 (.take 12 (.take 13 (.take 14 (.take 15 (.take 16 (.take 17 (.take 18 (.take 19 (.take 20 (.take 21 (.alt 22 (.take 23 (.take 24 (.take 25 (.take 26 (.alt 27 (.take 28 (.take 29 (.take 30 (.take 31 (.take 32 (.take 33 (.take 34 (.take 35 (.take 36 (.take 37 (.take 38 (.alt 39 (.alt 40 (.alt 41 (.take 42 (.take 43 (.take 44 (.alt 45 (.alt 46 (.alt 47 (.take 48 (.take 49 (.alt 50 (.alt 51 (.alt 52 (.take 53 (.take 54 (.take 55 (.alt 56 (.alt 57 (.alt 58 (.take 59 (.take 60 (.alt 61 (.alt 62 (.alt 63 (.take 64 (.take 65 (.take 66 (.alt 67 (.alt 68 (.alt 69 (.take 70 (.take 71 (.take 72 (.alt 73 (.alt 74 (.alt 75 (.alt 76 (.alt 77 (.take 78 (.take 79 (.alt 80 (.alt 81 (.alt 82 (.alt 83 (.take 84 (.take 85 (.take 86 (.alt 87 (.alt 88 (.alt 89 (.take 90 (.take 91 (.take 92 (.alt 93 (.alt 94 (.alt 95 (.alt 96 (.alt 97 (.alt 98 (.alt 99 (.alt 100 (.alt 101 (.alt 102 (.alt 103 (.alt 104 (.alt 105 (.take 106 (.take 107 (.alt 108 (.alt 109 (.alt 110 (.alt 111 (.alt 112 (.alt 113 (.alt 114 (.take 115 (.take 116 (.take 117 (.alt 118 (.alt 119 (.take 120 (.take 121 (.done))) .no) .no)))) .no) .no) .no) .no) .no) .no) .no))) .no) .no) .no) .no) .no) .no) .no) .no) .no) .no) .no) .no) .no)))) .no) .no) .no)))) .no) .no) .no) .no))) .no) .no) .no) .no) .no)))) .no) .no) .no)))) .no) .no) .no))) .no) .no) .no)))) .no) .no) .no))) .no) .no) .no)))) .no) .no) .no)))))))))))) .no))))) .no))))))))))))))))) .no)))) .no))], ob := [], qs := [8, 11, 13, 15, 17, 19, 21, 23, 24, 25, 27, 31, 33] }
@[go_sem] theorem cx_law15_awake_e : cx_law15_awake.gs = none ∧ cx_law15_awake.md = 0 ∧ cx_law15_awake.T = T ∧ cx_law15_awake.E = E ∧ cx_law15_awake.cs = [(8, c_span_Halves), (11, c_span_Take), (13, c_span_Right), (15, c_span_Len), (17, c_span_Has), (19, c_span_Meet), (21, c_span_Apart), (23, c_law15_Own), (24, c_ref15_Same), (25, c_span_Twice), (27, c_span_Cover), (31, c_wide_Of), (33, c_law15_sp)] ∧ cx_law15_awake.sch = [(6, false, .take 0 (.alt 1 (.take 2 (.take 3 (.take 4 (.alt 5 (.take 6 (.take 7 (.take 8 (.take 9 (.take 10 (.take 11 (.take 12 (.take 13 (.take 14 (.take 15 (.take 16 (.take 17 (.take 18 (.take 19 (.take 20 (.take 21 (.alt 22 (.take 23 (.take 24 (.take 25 (.take 26 (.alt 27 (.take 28 (.take 29 (.take 30 (.take 31 (.take 32 (.take 33 (.take 34 (.take 35 (.take 36 (.take 37 (.take 38 (.alt 39 (.alt 40 (.alt 41 (.take 42 (.take 43 (.take 44 (.alt 45 (.alt 46 (.alt 47 (.take 48 (.take 49 (.alt 50 (.alt 51 (.alt 52 (.take 53 (.take 54 (.take 55 (.alt 56 (.alt 57 (.alt 58 (.take 59 (.take 60 (.alt 61 (.alt 62 (.alt 63 (.take 64 (.take 65 (.take 66 (.alt 67 (.alt 68 (.alt 69 (.take 70 (.take 71 (.take 72 (.alt 73 (.alt 74 (.alt 75 (.alt 76 (.alt 77 (.take 78 (.take 79 (.alt 80 (.alt 81 (.alt 82 (.alt 83 (.take 84 (.take 85 (.take 86 (.alt 87 (.alt 88 (.alt 89 (.take 90 (.take 91 (.take 92 (.alt 93 (.alt 94 (.alt 95 (.alt 96 (.alt 97 (.alt 98 (.alt 99 (.alt 100 (.alt 101 (.alt 102 (.alt 103 (.alt 104 (.alt 105 (.take 106 (.take 107 (.alt 108 (.alt 109 (.alt 110 (.alt 111 (.alt 112 (.alt 113 (.alt 114 (.take 115 (.take 116 (.take 117 (.alt 118 (.alt 119 (.take 120 (.take 121 (.done))) .no) .no)))) .no) .no) .no) .no) .no) .no) .no))) .no) .no) .no) .no) .no) .no) .no) .no) .no) .no) .no) .no) .no)))) .no) .no) .no)))) .no) .no) .no) .no))) .no) .no) .no) .no) .no)))) .no) .no) .no)))) .no) .no) .no))) .no) .no) .no)))) .no) .no) .no))) .no) .no) .no)))) .no) .no) .no)))))))))))) .no))))) .no))))))))))))))))) .no)))) .no))] ∧ ∀ d, (cx_law15_awake.ob).contains d = false := ⟨rfl, rfl, rfl, rfl, rfl, rfl, fun _ => rfl⟩
theorem cok_law15_awake : COk Try.prog (cx_law15_awake) := cok_of rfl (.cons ok_span_Halves (.cons ok_span_Take (.cons ok_span_Right (.cons ok_span_Len (.cons ok_span_Has (.cons ok_span_Meet (.cons ok_span_Apart (.cons ok_law15_Own (.cons ok_ref15_Same (.cons ok_span_Twice (.cons ok_span_Cover (.cons ok_wide_Of (.cons ok_law15_sp (.nil)))))))))))))) (.cons (fun _ => fn1_quiet) (.cons (fun _ => fn2_quiet) (.cons (fun _ => fn1_quiet) (.cons (fun _ => fn1_quiet) (.cons (fun _ => fn2_quiet) (.cons (fun _ => fn2_quiet) (.cons (fun _ => fn1_quiet) (.cons (fun _ => fn1_quiet) (.cons (fun _ => fn2_quiet) (.cons (fun _ => fn1_quiet) (.cons (fun _ => fn1_quiet) (.cons (fun _ => fn1_quiet) (.cons (fun _ => fn2_quiet) (.nil)))))))))))))) (.nil)
set_option maxHeartbeats 4000000 in
theorem ok_law15_awake : Ok Try.prog 7 c_law15_awake := by
  refine ok_fn0 cok_law15_awake mixed Try.func7 rfl (by kernel_rfl) (by kernel_rfl) rfl ?_
  intro om
  simp (maxSteps := 10000000) only [go_sem, Try.f7, kn1, kn2, kn3, kn4, kn5, kn6, kn7, kn8, kn9, kz1, kz2, kz3, kz4, kz5, kz6, kz7, kz8, kz9, kz0, reduceCtorEq, String.reduceEq, kn0, kq1, kq2, kq3, kq4, Int.toNat_natCast, t2_dec0, tW_lit, a15_h1, a15_h2, a15_h3, a15_t1, a15_t2, a15_m1, a15_m2, a15_m3, a15_a1, a15_a2, a15_a3, a15_tw, a15_cv]
end Go.Proofs.Ytlcnohmnemmbdaa.I
