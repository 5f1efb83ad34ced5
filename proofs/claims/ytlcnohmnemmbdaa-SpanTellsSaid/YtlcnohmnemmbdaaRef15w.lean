/- The reference of layer 15: without. -/
import Derived.Test.YtlcnohmnemmbdaaRef15
namespace Go.Proofs.Ytlcnohmnemmbdaa.I
open Go
open Nat renaming reduceEqDiff → kn1, reduceBEq → kn2, reducePow → kn3, reduceMod → kn4, reduceAdd → kn5, reduceSub → kn6, reduceMul → kn7, reduceDiv → kn8, reduceLeDiff → kn9, reduceLT → kn0, zero_lt_one → kq1, zero_add → kq2, zero_le → kq3, le_refl → kq4
open Int renaming reduceToNat → kz1, reduceAdd → kz2, reduceSub → kz3, reduceMul → kz4, reduceDiv → kz5, reduceMod → kz6, reduceLE → kz7, reduceLT → kz8, reduceNeg → kz9, reduceEq → kz0
set_option maxRecDepth 10000
set_option linter.unusedSimpArgs false
set_option linter.unusedVariables false

theorem lessL_snoc (l : List D2) (s t : D2) : lessL (l ++ [s]) t = lessL l t ++ less1 s t := by simp [lessL]
theorem less1_len (s t : D2) : (less1 s t).length ≤ 2 := by
  unfold less1
  repeat' split
  all_goals simp
theorem lessL_len (l : List D2) (t : D2) : (lessL l t).length ≤ 2 * l.length := by
  induction l with
  | nil => simp [lessL]
  | cons x l ih =>
    have := less1_len x t
    simp only [lessL, List.flatMap_cons, List.length_append, List.length_cons] at ih ⊢
    omega
def rowH (h : Nat) : List D2 → V
  | [] => .lit []
  | x :: xs => .row h (xs.length + 1) (xs.length + 1)
def memH (h : Nat) (r : Mem) : List D2 → Mem
  | [] => r
  | x :: xs => (h, ⟨4, true, els v2 (x :: xs), false⟩) :: r
@[go_sem] noncomputable def c_ref15_without : Cn := fn2 (tL t2) t2 (fun l _ => l.length ≤ 1000000) fun l t => .sl (els v2 (lessL l t))
noncomputable def cx_ref15_without : Cx := { T := T, E := E, cs := [(20, c_ref15_Meet), (37, c_ref01_Cmp)], sch := [(5, false, .take 0 (.take 1 (.take 2 (.take 3 (.take 4 (.alt 5 (.take 6 (.done)) .no)))))), (7, false, .take 0 (.take 1 (.take 2 (.take 3 (.take 4 (.take 5 (.take 6 (.alt 7 (.take 8 (.done)) .no)))))))), (8, false, .take 0 (.take 1 (.take 2 (.take 6 (.alt 3 (.take 4 (.alt 5 (.alt 7 (.take 8 (.alt 9 (.alt 10 (.take 11 (.done)) .no) .no)) .no) (.alt 7 (.alt 5 (.take 8 (.alt 9 (.alt 10 (.take 11 (.done)) .no) .no)) .no) (.no)))) (.alt 7 (.alt 3 (.take 4 (.alt 5 (.take 8 (.alt 9 (.alt 10 (.take 11 (.done)) .no) .no)) .no)) .no) (.no))))))), (9, false, .take 0 (.take 1 (.take 2 (.take 3 (.take 4 (.take 5 (.take 6 (.alt 7 (.take 8 (.done)) .no)))))))), (10, false, .take 0 (.take 1 (.take 3 (.take 4 (.alt 2 (.alt 5 (.take 6 (.alt 7 (.take 8 (.alt 9 (.alt 10 (.take 11 (.done)) .no) .no)) .no)) .no) (.alt 5 (.take 6 (.alt 2 (.alt 7 (.take 8 (.alt 9 (.alt 10 (.take 11 (.done)) .no) .no)) .no) (.alt 7 (.alt 2 (.take 8 (.alt 9 (.alt 10 (.take 11 (.done)) .no) .no)) .no) (.no)))) (.no)))))))], ob := [], qs := [20, 37] }
@[go_sem] theorem cx_ref15_without_e : cx_ref15_without.gs = none ∧ cx_ref15_without.md = 0 ∧ cx_ref15_without.T = T ∧ cx_ref15_without.E = E ∧ cx_ref15_without.cs = [(20, c_ref15_Meet), (37, c_ref01_Cmp)] ∧ cx_ref15_without.sch = [(5, false, .take 0 (.take 1 (.take 2 (.take 3 (.take 4 (.alt 5 (.take 6 (.done)) .no)))))), (7, false, .take 0 (.take 1 (.take 2 (.take 3 (.take 4 (.take 5 (.take 6 (.alt 7 (.take 8 (.done)) .no)))))))), (8, false, .take 0 (.take 1 (.take 2 (.take 6 (.alt 3 (.take 4 (.alt 5 (.alt 7 (.take 8 (.alt 9 (.alt 10 (.take 11 (.done)) .no) .no)) .no) (.alt 7 (.alt 5 (.take 8 (.alt 9 (.alt 10 (.take 11 (.done)) .no) .no)) .no) (.no)))) (.alt 7 (.alt 3 (.take 4 (.alt 5 (.take 8 (.alt 9 (.alt 10 (.take 11 (.done)) .no) .no)) .no)) .no) (.no))))))), (9, false, .take 0 (.take 1 (.take 2 (.take 3 (.take 4 (.take 5 (.take 6 (.alt 7 (.take 8 (.done)) .no)))))))), (10, false, .take 0 (.take 1 (.take 3 (.take 4 (.alt 2 (.alt 5 (.take 6 (.alt 7 (.take 8 (.alt 9 (.alt 10 (.take 11 (.done)) .no) .no)) .no)) .no) (.alt 5 (.take 6 (.alt 2 (.alt 7 (.take 8 (.alt 9 (.alt 10 (.take 11 (.done)) .no) .no)) .no) (.alt 7 (.alt 2 (.take 8 (.alt 9 (.alt 10 (.take 11 (.done)) .no) .no)) .no) (.no)))) (.no)))))))] ∧ ∀ d, (cx_ref15_without.ob).contains d = false := ⟨rfl, rfl, rfl, rfl, rfl, rfl, fun _ => rfl⟩
theorem cok_ref15_without : COk Try.prog (cx_ref15_without) := cok_of rfl (.cons ok_ref15_Meet (.cons ok_ref01_Cmp (.nil))) (.cons (fun _ => fn2_quiet) (.cons (fun _ => fn2_quiet) (.nil))) (.nil)
set_option maxHeartbeats 8000000 in
theorem ok_ref15_without : Ok Try.prog 44 c_ref15_without := by
  refine ok_fn2 cok_ref15_without mixed Try.func44 rfl (by kernel_rfl) (by kernel_rfl) rfl ?_
  intro l t om hw hl
  simp only [go_sem, Try.f44, kn1, kn2, kn3, kn4, kn5, kn6, kn7, kn8, kn9, kz1, kz2, kz3, kz4, kz5, kz6, kz7, kz8, kz9, kz0, reduceCtorEq, String.reduceEq, kn0, kq1, kq2, kq3, kq4, Int.toNat_natCast]
  refine ⟨Nat × Nat, fun q => ⟨[.sl (els v2 l), .u, .u, .ref 3 1 4 0 0, .nils, rowH q.2 (lessL (l.take q.1) t), .z q.1, .u, .u, .u, .u, .u, .u, .u, .u, .u, .u, .u, .u, .u, .u, .u, .u, .u, .u, .u, .u, .u, .u, .u, .u, .u, .u, .u, .u, .u, .u, .u, .u, .u, .u, .u, .u, .u, .u, .u, .u, .u, .u, .u, .u, .u, .u, .u, .u, .u, .u, .u, .u, .u, .u, .u, .u, .u, .u, .u, .u, .u, .u], memH q.2 [(3, ⟨4, true, [v2 t], false⟩)] (lessL (l.take q.1) t), om⟩, fun q => q.1 ≤ l.length ∧ (q.2 = 27 ∨ q.2 = 47 ∨ q.2 = 67), fun q => l.length - q.1, ⟨(0, 27), ⟨Nat.zero_le _, .inl rfl⟩, ?_⟩, ?_⟩
  · simp only [go_sem, kn1, kn2, kn3, kn4, kn5, kn6, kn7, kn8, kn9, kz1, kz2, kz3, kz4, kz5, kz6, kz7, kz8, kz9, kz0, reduceCtorEq, String.reduceEq, kn0, kq1, kq2, kq3, kq4, Int.toNat_natCast, lessL, List.flatMap_nil, rowH, memH]
  · rintro ⟨k, h⟩ ⟨hk, hh⟩
    simp only at hk hh
    have lb := lessL_len (l.take k) t
    have lt := List.length_take_le k l
    by_cases c : k < l.length
    · have c' : ((k : Int) < (l.length : Int)) = True := eq_true (by omega)
      obtain ⟨S, hS⟩ : ∃ S, l.getD k z2 = S := ⟨_, rfl⟩
      have sn : lessL (l.take (k + 1)) t = lessL (l.take k) t ++ less1 S t := by rw [take_snoc2 c, lessL_snoc, hS]
      obtain ⟨A, hA⟩ : ∃ A, lessL (l.take k) t = A := ⟨_, rfl⟩
      rw [hA] at sn lb
      by_cases d1 : meets S t
      · have d1' := eq_true d1
        by_cases d2 : S.a < t.a
        · by_cases d3 : t.b < S.b
          · have dd := d3
            have l1 : less1 S t = [(⟨S.a, t.a⟩ : D2)] ++ [(⟨t.b, S.b⟩ : D2)] := by unfold less1; rw [if_neg (not_not_intro d1), if_pos d2, if_pos d3]
            rw [l1] at sn
            have d2' := eq_true d2
            have d3' := eq_true d3
            cases A with
            | nil =>
              simp (maxSteps := 1000000) only [go_sem, kn1, kn2, kn3, kn4, kn5, kn6, kn7, kn8, kn9, kz1, kz2, kz3, kz4, kz5, kz6, kz7, kz8, kz9, kz0, reduceCtorEq, String.reduceEq, kn0, kq1, kq2, kq3, kq4, Int.toNat_natCast, c', e2_get, hS, hA, d1', d2', d3', cmpN_lt', rowH, memH]
              repeat' (first | with_reducible refine And.intro ?_ ?_ | with_reducible intro _)
              all_goals first
                | omega
                | (refine ⟨(k + 1, 47), ⟨by show k + 1 ≤ _; omega, .inr (.inl rfl)⟩, ?_, by show l.length - (k + 1) < _; omega⟩
                   simp (maxSteps := 1000000) only [go_sem, kn1, kn2, kn3, kn4, kn5, kn6, kn7, kn8, kn9, kz1, kz2, kz3, kz4, kz5, kz6, kz7, kz8, kz9, kz0, reduceCtorEq, String.reduceEq, kn0, kq1, kq2, kq3, kq4, Int.toNat_natCast, sn, rowH, memH, List.length_append, List.cons_append, List.nil_append]
                   try first | omega | exact ⟨by omega, by simp [els, v2]⟩)
                | (simp [els]; done)
            | cons x xs =>
              rw [List.length_cons] at lb
              rcases hh with rfl | rfl | rfl
              · simp (maxSteps := 1000000) only [go_sem, kn1, kn2, kn3, kn4, kn5, kn6, kn7, kn8, kn9, kz1, kz2, kz3, kz4, kz5, kz6, kz7, kz8, kz9, kz0, reduceCtorEq, String.reduceEq, kn0, kq1, kq2, kq3, kq4, Int.toNat_natCast, c', e2_get, hS, hA, d1', d2', d3', cmpN_lt', rowH, memH]
                repeat' (first | with_reducible refine And.intro ?_ ?_ | with_reducible intro _)
                all_goals first
                  | omega
                  | (refine ⟨(k + 1, 27), ⟨by show k + 1 ≤ _; omega, .inl rfl⟩, ?_, by show l.length - (k + 1) < _; omega⟩
                     simp (maxSteps := 1000000) only [go_sem, kn1, kn2, kn3, kn4, kn5, kn6, kn7, kn8, kn9, kz1, kz2, kz3, kz4, kz5, kz6, kz7, kz8, kz9, kz0, reduceCtorEq, String.reduceEq, kn0, kq1, kq2, kq3, kq4, Int.toNat_natCast, sn, rowH, memH, List.length_append, List.cons_append, List.nil_append]
                     try first | omega | exact ⟨by omega, by simp [els, v2]⟩)
                  | (simp [els]; done)
              · simp (maxSteps := 1000000) only [go_sem, kn1, kn2, kn3, kn4, kn5, kn6, kn7, kn8, kn9, kz1, kz2, kz3, kz4, kz5, kz6, kz7, kz8, kz9, kz0, reduceCtorEq, String.reduceEq, kn0, kq1, kq2, kq3, kq4, Int.toNat_natCast, c', e2_get, hS, hA, d1', d2', d3', cmpN_lt', rowH, memH]
                repeat' (first | with_reducible refine And.intro ?_ ?_ | with_reducible intro _)
                all_goals first
                  | omega
                  | (refine ⟨(k + 1, 47), ⟨by show k + 1 ≤ _; omega, .inr (.inl rfl)⟩, ?_, by show l.length - (k + 1) < _; omega⟩
                     simp (maxSteps := 1000000) only [go_sem, kn1, kn2, kn3, kn4, kn5, kn6, kn7, kn8, kn9, kz1, kz2, kz3, kz4, kz5, kz6, kz7, kz8, kz9, kz0, reduceCtorEq, String.reduceEq, kn0, kq1, kq2, kq3, kq4, Int.toNat_natCast, sn, rowH, memH, List.length_append, List.cons_append, List.nil_append]
                     try first | omega | exact ⟨by omega, by simp [els, v2]⟩)
                  | (simp [els]; done)
              · simp (maxSteps := 1000000) only [go_sem, kn1, kn2, kn3, kn4, kn5, kn6, kn7, kn8, kn9, kz1, kz2, kz3, kz4, kz5, kz6, kz7, kz8, kz9, kz0, reduceCtorEq, String.reduceEq, kn0, kq1, kq2, kq3, kq4, Int.toNat_natCast, c', e2_get, hS, hA, d1', d2', d3', cmpN_lt', rowH, memH]
                repeat' (first | with_reducible refine And.intro ?_ ?_ | with_reducible intro _)
                all_goals first
                  | omega
                  | (refine ⟨(k + 1, 67), ⟨by show k + 1 ≤ _; omega, .inr (.inr rfl)⟩, ?_, by show l.length - (k + 1) < _; omega⟩
                     simp (maxSteps := 1000000) only [go_sem, kn1, kn2, kn3, kn4, kn5, kn6, kn7, kn8, kn9, kz1, kz2, kz3, kz4, kz5, kz6, kz7, kz8, kz9, kz0, reduceCtorEq, String.reduceEq, kn0, kq1, kq2, kq3, kq4, Int.toNat_natCast, sn, rowH, memH, List.length_append, List.cons_append, List.nil_append]
                     try first | omega | exact ⟨by omega, by simp [els, v2]⟩)
                  | (simp [els]; done)
          · have dd := d3
            have l1 : less1 S t = [(⟨S.a, t.a⟩ : D2)] := by unfold less1; rw [if_neg (not_not_intro d1), if_pos d2, if_neg d3]; rfl
            rw [l1] at sn
            have d2' := eq_true d2
            have d3' := eq_false d3
            cases A with
            | nil =>
              simp (maxSteps := 1000000) only [go_sem, kn1, kn2, kn3, kn4, kn5, kn6, kn7, kn8, kn9, kz1, kz2, kz3, kz4, kz5, kz6, kz7, kz8, kz9, kz0, reduceCtorEq, String.reduceEq, kn0, kq1, kq2, kq3, kq4, Int.toNat_natCast, c', e2_get, hS, hA, d1', d2', d3', cmpN_lt', rowH, memH]
              repeat' (first | with_reducible refine And.intro ?_ ?_ | with_reducible intro _)
              all_goals first
                | omega
                | (refine ⟨(k + 1, 47), ⟨by show k + 1 ≤ _; omega, .inr (.inl rfl)⟩, ?_, by show l.length - (k + 1) < _; omega⟩
                   simp (maxSteps := 1000000) only [go_sem, kn1, kn2, kn3, kn4, kn5, kn6, kn7, kn8, kn9, kz1, kz2, kz3, kz4, kz5, kz6, kz7, kz8, kz9, kz0, reduceCtorEq, String.reduceEq, kn0, kq1, kq2, kq3, kq4, Int.toNat_natCast, sn, rowH, memH, List.length_append, List.cons_append, List.nil_append]
                   try first | omega | exact ⟨by omega, by simp [els, v2]⟩)
                | (simp [els]; done)
            | cons x xs =>
              rw [List.length_cons] at lb
              rcases hh with rfl | rfl | rfl
              · simp (maxSteps := 1000000) only [go_sem, kn1, kn2, kn3, kn4, kn5, kn6, kn7, kn8, kn9, kz1, kz2, kz3, kz4, kz5, kz6, kz7, kz8, kz9, kz0, reduceCtorEq, String.reduceEq, kn0, kq1, kq2, kq3, kq4, Int.toNat_natCast, c', e2_get, hS, hA, d1', d2', d3', cmpN_lt', rowH, memH]
                repeat' (first | with_reducible refine And.intro ?_ ?_ | with_reducible intro _)
                all_goals first
                  | omega
                  | (refine ⟨(k + 1, 27), ⟨by show k + 1 ≤ _; omega, .inl rfl⟩, ?_, by show l.length - (k + 1) < _; omega⟩
                     simp (maxSteps := 1000000) only [go_sem, kn1, kn2, kn3, kn4, kn5, kn6, kn7, kn8, kn9, kz1, kz2, kz3, kz4, kz5, kz6, kz7, kz8, kz9, kz0, reduceCtorEq, String.reduceEq, kn0, kq1, kq2, kq3, kq4, Int.toNat_natCast, sn, rowH, memH, List.length_append, List.cons_append, List.nil_append]
                     try first | omega | exact ⟨by omega, by simp [els, v2]⟩)
                  | (simp [els]; done)
              · simp (maxSteps := 1000000) only [go_sem, kn1, kn2, kn3, kn4, kn5, kn6, kn7, kn8, kn9, kz1, kz2, kz3, kz4, kz5, kz6, kz7, kz8, kz9, kz0, reduceCtorEq, String.reduceEq, kn0, kq1, kq2, kq3, kq4, Int.toNat_natCast, c', e2_get, hS, hA, d1', d2', d3', cmpN_lt', rowH, memH]
                repeat' (first | with_reducible refine And.intro ?_ ?_ | with_reducible intro _)
                all_goals first
                  | omega
                  | (refine ⟨(k + 1, 47), ⟨by show k + 1 ≤ _; omega, .inr (.inl rfl)⟩, ?_, by show l.length - (k + 1) < _; omega⟩
                     simp (maxSteps := 1000000) only [go_sem, kn1, kn2, kn3, kn4, kn5, kn6, kn7, kn8, kn9, kz1, kz2, kz3, kz4, kz5, kz6, kz7, kz8, kz9, kz0, reduceCtorEq, String.reduceEq, kn0, kq1, kq2, kq3, kq4, Int.toNat_natCast, sn, rowH, memH, List.length_append, List.cons_append, List.nil_append]
                     try first | omega | exact ⟨by omega, by simp [els, v2]⟩)
                  | (simp [els]; done)
              · simp (maxSteps := 1000000) only [go_sem, kn1, kn2, kn3, kn4, kn5, kn6, kn7, kn8, kn9, kz1, kz2, kz3, kz4, kz5, kz6, kz7, kz8, kz9, kz0, reduceCtorEq, String.reduceEq, kn0, kq1, kq2, kq3, kq4, Int.toNat_natCast, c', e2_get, hS, hA, d1', d2', d3', cmpN_lt', rowH, memH]
                repeat' (first | with_reducible refine And.intro ?_ ?_ | with_reducible intro _)
                all_goals first
                  | omega
                  | (refine ⟨(k + 1, 67), ⟨by show k + 1 ≤ _; omega, .inr (.inr rfl)⟩, ?_, by show l.length - (k + 1) < _; omega⟩
                     simp (maxSteps := 1000000) only [go_sem, kn1, kn2, kn3, kn4, kn5, kn6, kn7, kn8, kn9, kz1, kz2, kz3, kz4, kz5, kz6, kz7, kz8, kz9, kz0, reduceCtorEq, String.reduceEq, kn0, kq1, kq2, kq3, kq4, Int.toNat_natCast, sn, rowH, memH, List.length_append, List.cons_append, List.nil_append]
                     try first | omega | exact ⟨by omega, by simp [els, v2]⟩)
                  | (simp [els]; done)
        · by_cases d3 : t.b < S.b
          · have dd := d3
            have l1 : less1 S t = [(⟨t.b, S.b⟩ : D2)] := by unfold less1; rw [if_neg (not_not_intro d1), if_neg d2, if_pos d3]; rfl
            rw [l1] at sn
            have d2' := eq_false d2
            have d3' := eq_true d3
            cases A with
            | nil =>
              simp (maxSteps := 1000000) only [go_sem, kn1, kn2, kn3, kn4, kn5, kn6, kn7, kn8, kn9, kz1, kz2, kz3, kz4, kz5, kz6, kz7, kz8, kz9, kz0, reduceCtorEq, String.reduceEq, kn0, kq1, kq2, kq3, kq4, Int.toNat_natCast, c', e2_get, hS, hA, d1', d2', d3', cmpN_lt', rowH, memH]
              repeat' (first | with_reducible refine And.intro ?_ ?_ | with_reducible intro _)
              all_goals first
                | omega
                | (refine ⟨(k + 1, 67), ⟨by show k + 1 ≤ _; omega, .inr (.inr rfl)⟩, ?_, by show l.length - (k + 1) < _; omega⟩
                   simp (maxSteps := 1000000) only [go_sem, kn1, kn2, kn3, kn4, kn5, kn6, kn7, kn8, kn9, kz1, kz2, kz3, kz4, kz5, kz6, kz7, kz8, kz9, kz0, reduceCtorEq, String.reduceEq, kn0, kq1, kq2, kq3, kq4, Int.toNat_natCast, sn, rowH, memH, List.length_append, List.cons_append, List.nil_append]
                   try first | omega | exact ⟨by omega, by simp [els, v2]⟩)
                | (simp [els]; done)
            | cons x xs =>
              rw [List.length_cons] at lb
              rcases hh with rfl | rfl | rfl
              · simp (maxSteps := 1000000) only [go_sem, kn1, kn2, kn3, kn4, kn5, kn6, kn7, kn8, kn9, kz1, kz2, kz3, kz4, kz5, kz6, kz7, kz8, kz9, kz0, reduceCtorEq, String.reduceEq, kn0, kq1, kq2, kq3, kq4, Int.toNat_natCast, c', e2_get, hS, hA, d1', d2', d3', cmpN_lt', rowH, memH]
                repeat' (first | with_reducible refine And.intro ?_ ?_ | with_reducible intro _)
                all_goals first
                  | omega
                  | (refine ⟨(k + 1, 27), ⟨by show k + 1 ≤ _; omega, .inl rfl⟩, ?_, by show l.length - (k + 1) < _; omega⟩
                     simp (maxSteps := 1000000) only [go_sem, kn1, kn2, kn3, kn4, kn5, kn6, kn7, kn8, kn9, kz1, kz2, kz3, kz4, kz5, kz6, kz7, kz8, kz9, kz0, reduceCtorEq, String.reduceEq, kn0, kq1, kq2, kq3, kq4, Int.toNat_natCast, sn, rowH, memH, List.length_append, List.cons_append, List.nil_append]
                     try first | omega | exact ⟨by omega, by simp [els, v2]⟩)
                  | (simp [els]; done)
              · simp (maxSteps := 1000000) only [go_sem, kn1, kn2, kn3, kn4, kn5, kn6, kn7, kn8, kn9, kz1, kz2, kz3, kz4, kz5, kz6, kz7, kz8, kz9, kz0, reduceCtorEq, String.reduceEq, kn0, kq1, kq2, kq3, kq4, Int.toNat_natCast, c', e2_get, hS, hA, d1', d2', d3', cmpN_lt', rowH, memH]
                repeat' (first | with_reducible refine And.intro ?_ ?_ | with_reducible intro _)
                all_goals first
                  | omega
                  | (refine ⟨(k + 1, 47), ⟨by show k + 1 ≤ _; omega, .inr (.inl rfl)⟩, ?_, by show l.length - (k + 1) < _; omega⟩
                     simp (maxSteps := 1000000) only [go_sem, kn1, kn2, kn3, kn4, kn5, kn6, kn7, kn8, kn9, kz1, kz2, kz3, kz4, kz5, kz6, kz7, kz8, kz9, kz0, reduceCtorEq, String.reduceEq, kn0, kq1, kq2, kq3, kq4, Int.toNat_natCast, sn, rowH, memH, List.length_append, List.cons_append, List.nil_append]
                     try first | omega | exact ⟨by omega, by simp [els, v2]⟩)
                  | (simp [els]; done)
              · simp (maxSteps := 1000000) only [go_sem, kn1, kn2, kn3, kn4, kn5, kn6, kn7, kn8, kn9, kz1, kz2, kz3, kz4, kz5, kz6, kz7, kz8, kz9, kz0, reduceCtorEq, String.reduceEq, kn0, kq1, kq2, kq3, kq4, Int.toNat_natCast, c', e2_get, hS, hA, d1', d2', d3', cmpN_lt', rowH, memH]
                repeat' (first | with_reducible refine And.intro ?_ ?_ | with_reducible intro _)
                all_goals first
                  | omega
                  | (refine ⟨(k + 1, 67), ⟨by show k + 1 ≤ _; omega, .inr (.inr rfl)⟩, ?_, by show l.length - (k + 1) < _; omega⟩
                     simp (maxSteps := 1000000) only [go_sem, kn1, kn2, kn3, kn4, kn5, kn6, kn7, kn8, kn9, kz1, kz2, kz3, kz4, kz5, kz6, kz7, kz8, kz9, kz0, reduceCtorEq, String.reduceEq, kn0, kq1, kq2, kq3, kq4, Int.toNat_natCast, sn, rowH, memH, List.length_append, List.cons_append, List.nil_append]
                     try first | omega | exact ⟨by omega, by simp [els, v2]⟩)
                  | (simp [els]; done)
          · have dd := d3
            have l1 : less1 S t = ([] : List D2) := by unfold less1; rw [if_neg (not_not_intro d1), if_neg d2, if_neg d3]; rfl
            rw [l1] at sn
            have d2' := eq_false d2
            have d3' := eq_false d3
            cases A with
            | nil =>
              simp (maxSteps := 1000000) only [go_sem, kn1, kn2, kn3, kn4, kn5, kn6, kn7, kn8, kn9, kz1, kz2, kz3, kz4, kz5, kz6, kz7, kz8, kz9, kz0, reduceCtorEq, String.reduceEq, kn0, kq1, kq2, kq3, kq4, Int.toNat_natCast, c', e2_get, hS, hA, d1', d2', d3', cmpN_lt', rowH, memH]
              repeat' (first | with_reducible refine And.intro ?_ ?_ | with_reducible intro _)
              all_goals first
                | omega
                | (refine ⟨(k + 1, 27), ⟨by show k + 1 ≤ _; omega, .inl rfl⟩, ?_, by show l.length - (k + 1) < _; omega⟩
                   simp (maxSteps := 1000000) only [go_sem, kn1, kn2, kn3, kn4, kn5, kn6, kn7, kn8, kn9, kz1, kz2, kz3, kz4, kz5, kz6, kz7, kz8, kz9, kz0, reduceCtorEq, String.reduceEq, kn0, kq1, kq2, kq3, kq4, Int.toNat_natCast, sn, rowH, memH, List.length_append, List.cons_append, List.nil_append]
                   try first | omega | exact ⟨by omega, by simp [els, v2]⟩)
                | (simp [els]; done)
            | cons x xs =>
              rw [List.length_cons] at lb
              rcases hh with rfl | rfl | rfl
              · simp (maxSteps := 1000000) only [go_sem, kn1, kn2, kn3, kn4, kn5, kn6, kn7, kn8, kn9, kz1, kz2, kz3, kz4, kz5, kz6, kz7, kz8, kz9, kz0, reduceCtorEq, String.reduceEq, kn0, kq1, kq2, kq3, kq4, Int.toNat_natCast, c', e2_get, hS, hA, d1', d2', d3', cmpN_lt', rowH, memH]
                repeat' (first | with_reducible refine And.intro ?_ ?_ | with_reducible intro _)
                all_goals first
                  | omega
                  | (refine ⟨(k + 1, 27), ⟨by show k + 1 ≤ _; omega, .inl rfl⟩, ?_, by show l.length - (k + 1) < _; omega⟩
                     simp (maxSteps := 1000000) only [go_sem, kn1, kn2, kn3, kn4, kn5, kn6, kn7, kn8, kn9, kz1, kz2, kz3, kz4, kz5, kz6, kz7, kz8, kz9, kz0, reduceCtorEq, String.reduceEq, kn0, kq1, kq2, kq3, kq4, Int.toNat_natCast, sn, rowH, memH, List.length_append, List.cons_append, List.nil_append]
                     try first | omega | exact ⟨by omega, by simp [els, v2]⟩)
                  | (simp [els]; done)
              · simp (maxSteps := 1000000) only [go_sem, kn1, kn2, kn3, kn4, kn5, kn6, kn7, kn8, kn9, kz1, kz2, kz3, kz4, kz5, kz6, kz7, kz8, kz9, kz0, reduceCtorEq, String.reduceEq, kn0, kq1, kq2, kq3, kq4, Int.toNat_natCast, c', e2_get, hS, hA, d1', d2', d3', cmpN_lt', rowH, memH]
                repeat' (first | with_reducible refine And.intro ?_ ?_ | with_reducible intro _)
                all_goals first
                  | omega
                  | (refine ⟨(k + 1, 47), ⟨by show k + 1 ≤ _; omega, .inr (.inl rfl)⟩, ?_, by show l.length - (k + 1) < _; omega⟩
                     simp (maxSteps := 1000000) only [go_sem, kn1, kn2, kn3, kn4, kn5, kn6, kn7, kn8, kn9, kz1, kz2, kz3, kz4, kz5, kz6, kz7, kz8, kz9, kz0, reduceCtorEq, String.reduceEq, kn0, kq1, kq2, kq3, kq4, Int.toNat_natCast, sn, rowH, memH, List.length_append, List.cons_append, List.nil_append]
                     try first | omega | exact ⟨by omega, by simp [els, v2]⟩)
                  | (simp [els]; done)
              · simp (maxSteps := 1000000) only [go_sem, kn1, kn2, kn3, kn4, kn5, kn6, kn7, kn8, kn9, kz1, kz2, kz3, kz4, kz5, kz6, kz7, kz8, kz9, kz0, reduceCtorEq, String.reduceEq, kn0, kq1, kq2, kq3, kq4, Int.toNat_natCast, c', e2_get, hS, hA, d1', d2', d3', cmpN_lt', rowH, memH]
                repeat' (first | with_reducible refine And.intro ?_ ?_ | with_reducible intro _)
                all_goals first
                  | omega
                  | (refine ⟨(k + 1, 67), ⟨by show k + 1 ≤ _; omega, .inr (.inr rfl)⟩, ?_, by show l.length - (k + 1) < _; omega⟩
                     simp (maxSteps := 1000000) only [go_sem, kn1, kn2, kn3, kn4, kn5, kn6, kn7, kn8, kn9, kz1, kz2, kz3, kz4, kz5, kz6, kz7, kz8, kz9, kz0, reduceCtorEq, String.reduceEq, kn0, kq1, kq2, kq3, kq4, Int.toNat_natCast, sn, rowH, memH, List.length_append, List.cons_append, List.nil_append]
                     try first | omega | exact ⟨by omega, by simp [els, v2]⟩)
                  | (simp [els]; done)
      · have d1' := eq_false d1
        have l1 : less1 S t = [S] := by unfold less1; rw [if_pos d1]
        rw [l1] at sn
        cases A with
        | nil =>
          simp (maxSteps := 1000000) only [go_sem, kn1, kn2, kn3, kn4, kn5, kn6, kn7, kn8, kn9, kz1, kz2, kz3, kz4, kz5, kz6, kz7, kz8, kz9, kz0, reduceCtorEq, String.reduceEq, kn0, kq1, kq2, kq3, kq4, Int.toNat_natCast, c', e2_get, hS, hA, d1', rowH, memH]
          repeat' (first | with_reducible refine And.intro ?_ ?_ | with_reducible intro _)
          all_goals first
            | omega
            | (refine ⟨(k + 1, 27), ⟨by show k + 1 ≤ _; omega, .inl rfl⟩, ?_, by show l.length - (k + 1) < _; omega⟩
               simp (maxSteps := 1000000) only [go_sem, kn1, kn2, kn3, kn4, kn5, kn6, kn7, kn8, kn9, kz1, kz2, kz3, kz4, kz5, kz6, kz7, kz8, kz9, kz0, reduceCtorEq, String.reduceEq, kn0, kq1, kq2, kq3, kq4, Int.toNat_natCast, sn, rowH, memH, List.length_append, List.cons_append, List.nil_append]
               try first | omega | exact ⟨by omega, by simp [els, v2]⟩)
            | (simp [els]; done)
        | cons x xs =>
          rw [List.length_cons] at lb
          rcases hh with rfl | rfl | rfl
          · simp (maxSteps := 1000000) only [go_sem, kn1, kn2, kn3, kn4, kn5, kn6, kn7, kn8, kn9, kz1, kz2, kz3, kz4, kz5, kz6, kz7, kz8, kz9, kz0, reduceCtorEq, String.reduceEq, kn0, kq1, kq2, kq3, kq4, Int.toNat_natCast, c', e2_get, hS, hA, d1', rowH, memH]
            repeat' (first | with_reducible refine And.intro ?_ ?_ | with_reducible intro _)
            all_goals first
              | omega
              | (refine ⟨(k + 1, 27), ⟨by show k + 1 ≤ _; omega, .inl rfl⟩, ?_, by show l.length - (k + 1) < _; omega⟩
                 simp (maxSteps := 1000000) only [go_sem, kn1, kn2, kn3, kn4, kn5, kn6, kn7, kn8, kn9, kz1, kz2, kz3, kz4, kz5, kz6, kz7, kz8, kz9, kz0, reduceCtorEq, String.reduceEq, kn0, kq1, kq2, kq3, kq4, Int.toNat_natCast, sn, rowH, memH, List.length_append, List.cons_append, List.nil_append]
                 try first | omega | exact ⟨by omega, by simp [els, v2]⟩)
              | (simp [els]; done)
          · simp (maxSteps := 1000000) only [go_sem, kn1, kn2, kn3, kn4, kn5, kn6, kn7, kn8, kn9, kz1, kz2, kz3, kz4, kz5, kz6, kz7, kz8, kz9, kz0, reduceCtorEq, String.reduceEq, kn0, kq1, kq2, kq3, kq4, Int.toNat_natCast, c', e2_get, hS, hA, d1', rowH, memH]
            repeat' (first | with_reducible refine And.intro ?_ ?_ | with_reducible intro _)
            all_goals first
              | omega
              | (refine ⟨(k + 1, 47), ⟨by show k + 1 ≤ _; omega, .inr (.inl rfl)⟩, ?_, by show l.length - (k + 1) < _; omega⟩
                 simp (maxSteps := 1000000) only [go_sem, kn1, kn2, kn3, kn4, kn5, kn6, kn7, kn8, kn9, kz1, kz2, kz3, kz4, kz5, kz6, kz7, kz8, kz9, kz0, reduceCtorEq, String.reduceEq, kn0, kq1, kq2, kq3, kq4, Int.toNat_natCast, sn, rowH, memH, List.length_append, List.cons_append, List.nil_append]
                 try first | omega | exact ⟨by omega, by simp [els, v2]⟩)
              | (simp [els]; done)
          · simp (maxSteps := 1000000) only [go_sem, kn1, kn2, kn3, kn4, kn5, kn6, kn7, kn8, kn9, kz1, kz2, kz3, kz4, kz5, kz6, kz7, kz8, kz9, kz0, reduceCtorEq, String.reduceEq, kn0, kq1, kq2, kq3, kq4, Int.toNat_natCast, c', e2_get, hS, hA, d1', rowH, memH]
            repeat' (first | with_reducible refine And.intro ?_ ?_ | with_reducible intro _)
            all_goals first
              | omega
              | (refine ⟨(k + 1, 67), ⟨by show k + 1 ≤ _; omega, .inr (.inr rfl)⟩, ?_, by show l.length - (k + 1) < _; omega⟩
                 simp (maxSteps := 1000000) only [go_sem, kn1, kn2, kn3, kn4, kn5, kn6, kn7, kn8, kn9, kz1, kz2, kz3, kz4, kz5, kz6, kz7, kz8, kz9, kz0, reduceCtorEq, String.reduceEq, kn0, kq1, kq2, kq3, kq4, Int.toNat_natCast, sn, rowH, memH, List.length_append, List.cons_append, List.nil_append]
                 try first | omega | exact ⟨by omega, by simp [els, v2]⟩)
              | (simp [els]; done)
    · have c' : ((k : Int) < (l.length : Int)) = False := eq_false (by omega)
      have ek : k = l.length := by omega
      subst ek
      rw [List.take_length] at lb
      obtain ⟨A, hA⟩ : ∃ A, lessL l t = A := ⟨_, rfl⟩
      cases A with
      | nil => simp (maxSteps := 1000000) only [go_sem, kn1, kn2, kn3, kn4, kn5, kn6, kn7, kn8, kn9, kz1, kz2, kz3, kz4, kz5, kz6, kz7, kz8, kz9, kz0, reduceCtorEq, String.reduceEq, kn0, kq1, kq2, kq3, kq4, Int.toNat_natCast, c', List.take_length, hA, rowH, memH]
      | cons x xs =>
        rcases hh with rfl | rfl | rfl
        all_goals
          simp (maxSteps := 1000000) only [go_sem, kn1, kn2, kn3, kn4, kn5, kn6, kn7, kn8, kn9, kz1, kz2, kz3, kz4, kz5, kz6, kz7, kz8, kz9, kz0, reduceCtorEq, String.reduceEq, kn0, kq1, kq2, kq3, kq4, Int.toNat_natCast, c', List.take_length, hA, rowH, memH]
end Go.Proofs.Ytlcnohmnemmbdaa.I
