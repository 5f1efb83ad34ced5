/- span: Right, Len, Has, Meet, cut, Halves, Take; the same of the reference. -/
import Derived.Test.YtlcnohmnemmbdaaG4
import Derived.Test.YtlcnohmnemmbdaaRef01b
namespace Go.Proofs.Ytlcnohmnemmbdaa.I
open Go
open Nat renaming reduceEqDiff → kn1, reduceBEq → kn2, reducePow → kn3, reduceMod → kn4, reduceAdd → kn5, reduceSub → kn6, reduceMul → kn7, reduceDiv → kn8, reduceLeDiff → kn9, reduceLT → kn0, zero_lt_one → kq1, zero_add → kq2, zero_le → kq3, le_refl → kq4
open Int renaming reduceToNat → kz1, reduceAdd → kz2, reduceSub → kz3, reduceMul → kz4, reduceDiv → kz5, reduceMod → kz6, reduceLE → kz7, reduceLT → kz8, reduceNeg → kz9, reduceEq → kz0
set_option maxRecDepth 10000
set_option linter.unusedSimpArgs false
set_option linter.unusedVariables false

theorem cmpN_ge' (x y : Nat) : (0 ≤ cmpN x y) = (y ≤ x) := by
  unfold cmpN; apply propext; (repeat' split) <;> omega
theorem cmpN_le' (x y : Nat) : (cmpN x y ≤ 0) = (x ≤ y) := by
  unfold cmpN; apply propext; (repeat' split) <;> omega
theorem cmpN_lt' (x y : Nat) : (cmpN x y < 0) = (x < y) := by
  unfold cmpN; apply propext; (repeat' split) <;> omega
theorem cmpN_gt' (x y : Nat) : (0 < cmpN x y) = (y < x) := by
  unfold cmpN; apply propext; (repeat' split) <;> omega
theorem w_zero (n : Nat) : (n / 18446744073709551616 = 0 ∧ n % 18446744073709551616 = 0) = (n = 0) := propext ⟨fun h => by omega, fun h => by omega⟩
def z2 : D2 := ⟨0, 0⟩
/-- Have they a place in common? -/
def meets (s t : D2) : Prop := (s.a ≤ t.a ∧ t.a < s.b ∧ t.a < t.b) ∨ (t.a ≤ s.a ∧ s.a < t.b ∧ s.a < s.b)
instance (s t : D2) : Decidable (meets s t) := by unfold meets; infer_instance
def halve (s : D2) : D2 × D2 × Int :=
  if s.b < s.a then (z2, z2, 1) else if s.b - s.a < 2 then (z2, z2, 6) else (⟨s.a, s.a + (s.b - s.a + 1) / 2⟩, ⟨s.a + (s.b - s.a + 1) / 2, s.b⟩, 0)
def takes (s : D2) (n : Nat) : D2 × D2 × Int :=
  if s.b < s.a then (z2, z2, 1) else if s.b - s.a < n then (z2, z2, 7) else (⟨s.a, s.a + n⟩, ⟨s.a + n, s.b⟩, 0)

@[go_sem] noncomputable def c_span_Right : Cn := fn1 t2 (fun _ => True) fun s => .b (decide (s.a ≤ s.b))
noncomputable def cx_span_Right : Cx := { T := T, E := E, cs := [(30, c_wide_Cmp)], sch := [], ob := [], qs := [30] }
@[go_sem] theorem cx_span_Right_e : cx_span_Right.gs = none ∧ cx_span_Right.md = 0 ∧ cx_span_Right.T = T ∧ cx_span_Right.E = E ∧ cx_span_Right.cs = [(30, c_wide_Cmp)] ∧ ∀ d, (cx_span_Right.ob).contains d = false := ⟨rfl, rfl, rfl, rfl, rfl, fun _ => rfl⟩
theorem cok_span_Right : COk Try.prog (cx_span_Right) := cok_of rfl (.cons ok_wide_Cmp (.nil)) (.cons (fun _ => fn2_quiet) (.nil)) (.nil)
theorem ok_span_Right : Ok Try.prog 13 c_span_Right := by
  refine ok_fn1 cok_span_Right mixed Try.func13 rfl (by kernel_rfl) (by kernel_rfl) rfl ?_
  intro s om hw _
  simp only [go_sem, Try.f13, kn1, kn2, kn3, kn4, kn5, kn6, kn7, kn8, kn9, kz1, kz2, kz3, kz4, kz5, kz6, kz7, kz8, kz9, kz0, reduceCtorEq, String.reduceEq, kn0, kq1, kq2, kq3, kq4, Int.toNat_natCast, cmpN_le']
@[go_sem] noncomputable def c_span_Len : Cn := fn1 t2 (fun _ => True) fun s => vW (s.b - s.a)
noncomputable def cx_span_Len : Cx := { T := T, E := E, cs := [(13, c_span_Right), (29, c_wide_Sub)], sch := [], ob := [], qs := [13, 29] }
@[go_sem] theorem cx_span_Len_e : cx_span_Len.gs = none ∧ cx_span_Len.md = 0 ∧ cx_span_Len.T = T ∧ cx_span_Len.E = E ∧ cx_span_Len.cs = [(13, c_span_Right), (29, c_wide_Sub)] ∧ ∀ d, (cx_span_Len.ob).contains d = false := ⟨rfl, rfl, rfl, rfl, rfl, fun _ => rfl⟩
theorem cok_span_Len : COk Try.prog (cx_span_Len) := cok_of rfl (.cons ok_span_Right (.cons ok_wide_Sub (.nil))) (.cons (fun _ => fn1_quiet) (.cons (fun _ => fn2_quiet) (.nil))) (.nil)
theorem ok_span_Len : Ok Try.prog 15 c_span_Len := by
  refine ok_fn1 cok_span_Len mixed Try.func15 rfl (by kernel_rfl) (by kernel_rfl) rfl ?_
  intro s om hw _
  obtain ⟨h1, h2⟩ := wf_2 hw
  by_cases h : s.a ≤ s.b
  · have h' : (s.a ≤ s.b) = True := eq_true h
    have e : (s.b + 340282366920938463463374607431768211456 - s.a) % 340282366920938463463374607431768211456 = s.b - s.a := by omega
    simp only [go_sem, Try.f15, kn1, kn2, kn3, kn4, kn5, kn6, kn7, kn8, kn9, kz1, kz2, kz3, kz4, kz5, kz6, kz7, kz8, kz9, kz0, reduceCtorEq, String.reduceEq, kn0, kq1, kq2, kq3, kq4, Int.toNat_natCast, h', e]
  · have h' : (s.a ≤ s.b) = False := eq_false h
    have e : s.b - s.a = 0 := by omega
    simp only [go_sem, Try.f15, kn1, kn2, kn3, kn4, kn5, kn6, kn7, kn8, kn9, kz1, kz2, kz3, kz4, kz5, kz6, kz7, kz8, kz9, kz0, reduceCtorEq, String.reduceEq, kn0, kq1, kq2, kq3, kq4, Int.toNat_natCast, h', e]
@[go_sem] noncomputable def c_span_Has : Cn := fn2 t2 tW (fun _ _ => True) fun s n => .b (decide (s.a ≤ n ∧ n < s.b))
noncomputable def cx_span_Has : Cx := { T := T, E := E, cs := [(30, c_wide_Cmp)], sch := [], ob := [], qs := [30] }
@[go_sem] theorem cx_span_Has_e : cx_span_Has.gs = none ∧ cx_span_Has.md = 0 ∧ cx_span_Has.T = T ∧ cx_span_Has.E = E ∧ cx_span_Has.cs = [(30, c_wide_Cmp)] ∧ ∀ d, (cx_span_Has.ob).contains d = false := ⟨rfl, rfl, rfl, rfl, rfl, fun _ => rfl⟩
theorem cok_span_Has : COk Try.prog (cx_span_Has) := cok_of rfl (.cons ok_wide_Cmp (.nil)) (.cons (fun _ => fn2_quiet) (.nil)) (.nil)
theorem ok_span_Has : Ok Try.prog 17 c_span_Has := by
  refine ok_fn2 cok_span_Has mixed Try.func17 rfl (by kernel_rfl) (by kernel_rfl) rfl ?_
  intro s n om hw _
  simp only [go_sem, Try.f17, kn1, kn2, kn3, kn4, kn5, kn6, kn7, kn8, kn9, kz1, kz2, kz3, kz4, kz5, kz6, kz7, kz8, kz9, kz0, reduceCtorEq, String.reduceEq, kn0, kq1, kq2, kq3, kq4, Int.toNat_natCast, cmpN_le', cmpN_lt']
  exact fun _ => ⟨fun h _ => decide_eq_decide.2 ⟨fun g => ⟨h, g⟩, fun g => g.2⟩, fun h => (decide_eq_false fun g => h g.1).symm⟩
@[go_sem] noncomputable def c_span_Meet : Cn := fn2 t2 t2 (fun _ _ => True) fun s t => .b (decide (meets s t))
noncomputable def cx_span_Meet : Cx := { T := T, E := E, cs := [(15, c_span_Len), (17, c_span_Has)], sch := [], ob := [], qs := [15, 17] }
@[go_sem] theorem cx_span_Meet_e : cx_span_Meet.gs = none ∧ cx_span_Meet.md = 0 ∧ cx_span_Meet.T = T ∧ cx_span_Meet.E = E ∧ cx_span_Meet.cs = [(15, c_span_Len), (17, c_span_Has)] ∧ ∀ d, (cx_span_Meet.ob).contains d = false := ⟨rfl, rfl, rfl, rfl, rfl, fun _ => rfl⟩
theorem cok_span_Meet : COk Try.prog (cx_span_Meet) := cok_of rfl (.cons ok_span_Len (.cons ok_span_Has (.nil))) (.cons (fun _ => fn1_quiet) (.cons (fun _ => fn2_quiet) (.nil))) (.nil)
theorem ok_span_Meet : Ok Try.prog 19 c_span_Meet := by
  refine ok_fn2 cok_span_Meet mixed Try.func19 rfl (by kernel_rfl) (by kernel_rfl) rfl ?_
  intro s t om hw _
  by_cases hm : meets s t
  · have hd : decide (meets s t) = true := decide_eq_true hm
    simp only [go_sem, Try.f19, kn1, kn2, kn3, kn4, kn5, kn6, kn7, kn8, kn9, kz1, kz2, kz3, kz4, kz5, kz6, kz7, kz8, kz9, kz0, reduceCtorEq, String.reduceEq, kn0, kq1, kq2, kq3, kq4, Int.toNat_natCast, w_zero, hd]
    unfold meets at hm
    omega
  · have hd : decide (meets s t) = false := decide_eq_false hm
    simp only [go_sem, Try.f19, kn1, kn2, kn3, kn4, kn5, kn6, kn7, kn8, kn9, kz1, kz2, kz3, kz4, kz5, kz6, kz7, kz8, kz9, kz0, reduceCtorEq, String.reduceEq, kn0, kq1, kq2, kq3, kq4, Int.toNat_natCast, w_zero, hd]
    unfold meets at hm
    omega
@[go_sem] noncomputable def c_span_cut : Cn := fn2 t2 tW (fun _ _ => True) fun s n => .tup [v2 ⟨s.a, n⟩, v2 ⟨n, s.b⟩]
noncomputable def cx_span_cut : Cx := { T := T, E := E, cs := [], sch := [(1, false, .take 0 (.take 1 (.take 2 (.take 3 (.take 5 (.alt 4 (.alt 6 (.take 7 (.alt 8 (.alt 9 (.done) .no) .no)) (.alt 8 (.take 6 (.take 7 (.alt 9 (.done) .no))) (.no))) (.alt 6 (.alt 4 (.take 7 (.alt 8 (.alt 9 (.done) .no) .no)) (.alt 8 (.take 4 (.take 7 (.alt 9 (.done) .no))) (.no))) (.alt 8 (.take 4 (.take 6 (.take 7 (.alt 9 (.done) .no)))) (.no)))))))))], ob := [], qs := [] }
@[go_sem] theorem cx_span_cut_e : cx_span_cut.gs = none ∧ cx_span_cut.md = 0 ∧ cx_span_cut.T = T ∧ cx_span_cut.E = E ∧ cx_span_cut.cs = [] ∧ cx_span_cut.sch = [(1, false, .take 0 (.take 1 (.take 2 (.take 3 (.take 5 (.alt 4 (.alt 6 (.take 7 (.alt 8 (.alt 9 (.done) .no) .no)) (.alt 8 (.take 6 (.take 7 (.alt 9 (.done) .no))) (.no))) (.alt 6 (.alt 4 (.take 7 (.alt 8 (.alt 9 (.done) .no) .no)) (.alt 8 (.take 4 (.take 7 (.alt 9 (.done) .no))) (.no))) (.alt 8 (.take 4 (.take 6 (.take 7 (.alt 9 (.done) .no)))) (.no)))))))))] ∧ ∀ d, (cx_span_cut.ob).contains d = false := ⟨rfl, rfl, rfl, rfl, rfl, rfl, fun _ => rfl⟩
theorem cok_span_cut : COk Try.prog (cx_span_cut) := cok_of rfl (.nil) (.nil) (.nil)
theorem ok_span_cut : Ok Try.prog 36 c_span_cut := by
  refine ok_fn2 cok_span_cut mixed Try.func36 rfl (by kernel_rfl) (by kernel_rfl) rfl ?_
  intro s n om hw _
  simp only [go_sem, Try.f36, kn1, kn2, kn3, kn4, kn5, kn6, kn7, kn8, kn9, kz1, kz2, kz3, kz4, kz5, kz6, kz7, kz8, kz9, kz0, reduceCtorEq, String.reduceEq, kn0, kq1, kq2, kq3, kq4, Int.toNat_natCast]
@[go_sem] noncomputable def c_span_Halves : Cn := fn1 t2 (fun _ => True) fun s => .tup [v2 (halve s).1, v2 (halve s).2.1, .z (halve s).2.2]
noncomputable def cx_span_Halves : Cx := { T := T, E := E, cs := [(13, c_span_Right), (15, c_span_Len), (31, c_wide_Of), (32, c_wide_Add), (34, c_wide_Len), (35, c_wide_Right), (36, c_span_cut)], sch := [(6, false, .take 0 (.take 1 (.take 2 (.alt 3 (.alt 4 (.take 5 (.take 6 (.take 7 (.alt 8 (.alt 9 (.take 10 (.done)) .no) .no)))) (.alt 8 (.alt 4 (.take 5 (.take 6 (.take 7 (.alt 9 (.take 10 (.done)) .no)))) .no) (.no))) (.alt 8 (.alt 3 (.alt 4 (.take 5 (.take 6 (.take 7 (.alt 9 (.take 10 (.done)) .no)))) .no) .no) (.no)))))), (7, false, .take 0 (.take 1 (.take 2 (.take 3 (.alt 4 (.alt 5 (.take 6 (.take 7 (.take 8 (.alt 9 (.done) .no)))) .no) .no))))), (9, false, .take 0 (.alt 1 (.alt 2 (.alt 3 (.take 4 (.done)) .no) .no) (.alt 2 (.take 1 (.alt 3 (.take 4 (.done)) .no)) (.no))))], ob := [], qs := [13, 15, 31, 32, 34, 35, 36] }
@[go_sem] theorem cx_span_Halves_e : cx_span_Halves.gs = none ∧ cx_span_Halves.md = 0 ∧ cx_span_Halves.T = T ∧ cx_span_Halves.E = E ∧ cx_span_Halves.cs = [(13, c_span_Right), (15, c_span_Len), (31, c_wide_Of), (32, c_wide_Add), (34, c_wide_Len), (35, c_wide_Right), (36, c_span_cut)] ∧ cx_span_Halves.sch = [(6, false, .take 0 (.take 1 (.take 2 (.alt 3 (.alt 4 (.take 5 (.take 6 (.take 7 (.alt 8 (.alt 9 (.take 10 (.done)) .no) .no)))) (.alt 8 (.alt 4 (.take 5 (.take 6 (.take 7 (.alt 9 (.take 10 (.done)) .no)))) .no) (.no))) (.alt 8 (.alt 3 (.alt 4 (.take 5 (.take 6 (.take 7 (.alt 9 (.take 10 (.done)) .no)))) .no) .no) (.no)))))), (7, false, .take 0 (.take 1 (.take 2 (.take 3 (.alt 4 (.alt 5 (.take 6 (.take 7 (.take 8 (.alt 9 (.done) .no)))) .no) .no))))), (9, false, .take 0 (.alt 1 (.alt 2 (.alt 3 (.take 4 (.done)) .no) .no) (.alt 2 (.take 1 (.alt 3 (.take 4 (.done)) .no)) (.no))))] ∧ ∀ d, (cx_span_Halves.ob).contains d = false := ⟨rfl, rfl, rfl, rfl, rfl, rfl, fun _ => rfl⟩
theorem cok_span_Halves : COk Try.prog (cx_span_Halves) := cok_of rfl (.cons ok_span_Right (.cons ok_span_Len (.cons ok_wide_Of (.cons ok_wide_Add (.cons ok_wide_Len (.cons ok_wide_Right (.cons ok_span_cut (.nil)))))))) (.cons (fun _ => fn1_quiet) (.cons (fun _ => fn1_quiet) (.cons (fun _ => fn1_quiet) (.cons (fun _ => fn2_quiet) (.cons (fun _ => fn1_quiet) (.cons (fun _ => fn2_quiet) (.cons (fun _ => fn2_quiet) (.nil)))))))) (.nil)
theorem ok_span_Halves : Ok Try.prog 8 c_span_Halves := by
  refine ok_fn1 cok_span_Halves mixed Try.func8 rfl (by kernel_rfl) (by kernel_rfl) rfl ?_
  intro s om hw _
  obtain ⟨h1, h2⟩ := wf_2 hw
  by_cases c1 : s.b < s.a
  · have e : halve s = (z2, z2, 1) := by unfold halve; rw [if_pos c1]
    have c1' : (s.a ≤ s.b) = False := eq_false (by omega)
    simp only [go_sem, Try.f8, kn1, kn2, kn3, kn4, kn5, kn6, kn7, kn8, kn9, kz1, kz2, kz3, kz4, kz5, kz6, kz7, kz8, kz9, kz0, reduceCtorEq, String.reduceEq, kn0, kq1, kq2, kq3, kq4, Int.toNat_natCast, c1', e, z2]
  have c1' : (s.a ≤ s.b) = True := eq_true (by omega)
  by_cases c2 : s.b - s.a < 2
  · have e : halve s = (z2, z2, 6) := by unfold halve; rw [if_neg c1, if_pos c2]
    have c2' : ((bl (s.b - s.a) : Int) < 2) = True := eq_true (by have := (bl_lt (x := s.b - s.a) (k := 1)).2 (by omega); omega)
    simp only [go_sem, Try.f8, kn1, kn2, kn3, kn4, kn5, kn6, kn7, kn8, kn9, kz1, kz2, kz3, kz4, kz5, kz6, kz7, kz8, kz9, kz0, reduceCtorEq, String.reduceEq, kn0, kq1, kq2, kq3, kq4, Int.toNat_natCast, c1', c2', e, z2]
  have e : halve s = (⟨s.a, s.a + (s.b - s.a + 1) / 2⟩, ⟨s.a + (s.b - s.a + 1) / 2, s.b⟩, 0) := by unfold halve; rw [if_neg c1, if_neg c2]
  have c2' : ((bl (s.b - s.a) : Int) < 2) = False := eq_false (fun h => c2 (by have := (bl_lt (x := s.b - s.a) (k := 1)).1 (by omega); omega))
  have e1 : ((s.a + (s.b - s.a) >>> 1) % 340282366920938463463374607431768211456 + ((s.b - s.a) % 18446744073709551616 &&& 1)) % 340282366920938463463374607431768211456 = s.a + (s.b - s.a + 1) / 2 := by
    rw [Nat.shiftRight_eq_div_pow, Nat.and_one_is_mod]; omega
  simp only [go_sem, Try.f8, kn1, kn2, kn3, kn4, kn5, kn6, kn7, kn8, kn9, kz1, kz2, kz3, kz4, kz5, kz6, kz7, kz8, kz9, kz0, reduceCtorEq, String.reduceEq, kn0, kq1, kq2, kq3, kq4, Int.toNat_natCast, c1', c2', e, e1]
@[go_sem] noncomputable def c_span_Take : Cn := fn2 t2 tW (fun _ _ => True) fun s n => .tup [v2 (takes s n).1, v2 (takes s n).2.1, .z (takes s n).2.2]
noncomputable def cx_span_Take : Cx := { T := T, E := E, cs := [(13, c_span_Right), (15, c_span_Len), (30, c_wide_Cmp), (32, c_wide_Add), (36, c_span_cut)], sch := [(3, false, .take 0 (.take 2 (.alt 1 (.alt 3 (.take 4 (.take 5 (.done))) .no) .no))), (7, false, .take 0 (.alt 1 (.alt 2 (.alt 3 (.take 4 (.done)) .no) .no) (.alt 2 (.take 1 (.alt 3 (.take 4 (.done)) .no)) (.no))))], ob := [], qs := [13, 15, 30, 32, 36] }
@[go_sem] theorem cx_span_Take_e : cx_span_Take.gs = none ∧ cx_span_Take.md = 0 ∧ cx_span_Take.T = T ∧ cx_span_Take.E = E ∧ cx_span_Take.cs = [(13, c_span_Right), (15, c_span_Len), (30, c_wide_Cmp), (32, c_wide_Add), (36, c_span_cut)] ∧ cx_span_Take.sch = [(3, false, .take 0 (.take 2 (.alt 1 (.alt 3 (.take 4 (.take 5 (.done))) .no) .no))), (7, false, .take 0 (.alt 1 (.alt 2 (.alt 3 (.take 4 (.done)) .no) .no) (.alt 2 (.take 1 (.alt 3 (.take 4 (.done)) .no)) (.no))))] ∧ ∀ d, (cx_span_Take.ob).contains d = false := ⟨rfl, rfl, rfl, rfl, rfl, rfl, fun _ => rfl⟩
theorem cok_span_Take : COk Try.prog (cx_span_Take) := cok_of rfl (.cons ok_span_Right (.cons ok_span_Len (.cons ok_wide_Cmp (.cons ok_wide_Add (.cons ok_span_cut (.nil)))))) (.cons (fun _ => fn1_quiet) (.cons (fun _ => fn1_quiet) (.cons (fun _ => fn2_quiet) (.cons (fun _ => fn2_quiet) (.cons (fun _ => fn2_quiet) (.nil)))))) (.nil)
theorem ok_span_Take : Ok Try.prog 11 c_span_Take := by
  refine ok_fn2 cok_span_Take mixed Try.func11 rfl (by kernel_rfl) (by kernel_rfl) rfl ?_
  intro s n om hw _
  obtain ⟨h1, h2⟩ := wf_2 hw
  by_cases c1 : s.b < s.a
  · have e : takes s n = (z2, z2, 1) := by unfold takes; rw [if_pos c1]
    have c1' : (s.a ≤ s.b) = False := eq_false (by omega)
    simp only [go_sem, Try.f11, kn1, kn2, kn3, kn4, kn5, kn6, kn7, kn8, kn9, kz1, kz2, kz3, kz4, kz5, kz6, kz7, kz8, kz9, kz0, reduceCtorEq, String.reduceEq, kn0, kq1, kq2, kq3, kq4, Int.toNat_natCast, cmpN_lt', c1', e, z2]
  have c1' : (s.a ≤ s.b) = True := eq_true (by omega)
  by_cases c2 : s.b - s.a < n
  · have e : takes s n = (z2, z2, 7) := by unfold takes; rw [if_neg c1, if_pos c2]
    have c2' : (s.b - s.a < n) = True := eq_true c2
    simp only [go_sem, Try.f11, kn1, kn2, kn3, kn4, kn5, kn6, kn7, kn8, kn9, kz1, kz2, kz3, kz4, kz5, kz6, kz7, kz8, kz9, kz0, reduceCtorEq, String.reduceEq, kn0, kq1, kq2, kq3, kq4, Int.toNat_natCast, cmpN_lt', c1', c2', e, z2]
  have e : takes s n = (⟨s.a, s.a + n⟩, ⟨s.a + n, s.b⟩, 0) := by unfold takes; rw [if_neg c1, if_neg c2]
  have c2' : (s.b - s.a < n) = False := eq_false c2
  have e1 : (s.a + n) % 340282366920938463463374607431768211456 = s.a + n := Nat.mod_eq_of_lt (by omega)
  simp only [go_sem, Try.f11, kn1, kn2, kn3, kn4, kn5, kn6, kn7, kn8, kn9, kz1, kz2, kz3, kz4, kz5, kz6, kz7, kz8, kz9, kz0, reduceCtorEq, String.reduceEq, kn0, kq1, kq2, kq3, kq4, Int.toNat_natCast, cmpN_lt', c1', c2', e, e1]
end Go.Proofs.Ytlcnohmnemmbdaa.I
