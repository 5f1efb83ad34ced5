/- The reference of layer 15: Right, Len, Has, Meet, Take, Halves; One, sp of chapter 15. -/
import Derived.Test.YtlcnohmnemmbdaaSpan1
namespace Go.Proofs.Ytlcnohmnemmbdaa.I
open Go
open Nat renaming reduceEqDiff → kn1, reduceBEq → kn2, reducePow → kn3, reduceMod → kn4, reduceAdd → kn5, reduceSub → kn6, reduceMul → kn7, reduceDiv → kn8, reduceLeDiff → kn9, reduceLT → kn0, zero_lt_one → kq1, zero_add → kq2, zero_le → kq3, le_refl → kq4
open Int renaming reduceToNat → kz1, reduceAdd → kz2, reduceSub → kz3, reduceMul → kz4, reduceDiv → kz5, reduceMod → kz6, reduceLE → kz7, reduceLT → kz8, reduceNeg → kz9, reduceEq → kz0
set_option maxRecDepth 10000
set_option linter.unusedSimpArgs false
set_option linter.unusedVariables false

@[go_sem] noncomputable def c_ref15_Right : Cn := fn1 t2 (fun _ => True) fun s => .b (decide (s.a ≤ s.b))
noncomputable def cx_ref15_Right : Cx := { T := T, E := E, cs := [(37, c_ref01_Cmp)], sch := [], ob := [], qs := [37] }
@[go_sem] theorem cx_ref15_Right_e : cx_ref15_Right.gs = none ∧ cx_ref15_Right.md = 0 ∧ cx_ref15_Right.T = T ∧ cx_ref15_Right.E = E ∧ cx_ref15_Right.cs = [(37, c_ref01_Cmp)] ∧ ∀ d, (cx_ref15_Right.ob).contains d = false := ⟨rfl, rfl, rfl, rfl, rfl, fun _ => rfl⟩
theorem cok_ref15_Right : COk Try.prog (cx_ref15_Right) := cok_of rfl (.cons ok_ref01_Cmp (.nil)) (.cons (fun _ => fn2_quiet) (.nil)) (.nil)
theorem ok_ref15_Right : Ok Try.prog 14 c_ref15_Right := by
  refine ok_fn1 cok_ref15_Right mixed Try.func14 rfl (by kernel_rfl) (by kernel_rfl) rfl ?_
  intro s om hw _
  simp only [go_sem, Try.f14, kn1, kn2, kn3, kn4, kn5, kn6, kn7, kn8, kn9, kz1, kz2, kz3, kz4, kz5, kz6, kz7, kz8, kz9, kz0, reduceCtorEq, String.reduceEq, kn0, kq1, kq2, kq3, kq4, Int.toNat_natCast, cmpN_le']
@[go_sem] noncomputable def c_ref15_Len : Cn := fn1 t2 (fun _ => True) fun s => vW (s.b - s.a)
noncomputable def cx_ref15_Len : Cx := { T := T, E := E, cs := [(14, c_ref15_Right), (40, c_ref01_Sub)], sch := [], ob := [], qs := [14, 40] }
@[go_sem] theorem cx_ref15_Len_e : cx_ref15_Len.gs = none ∧ cx_ref15_Len.md = 0 ∧ cx_ref15_Len.T = T ∧ cx_ref15_Len.E = E ∧ cx_ref15_Len.cs = [(14, c_ref15_Right), (40, c_ref01_Sub)] ∧ ∀ d, (cx_ref15_Len.ob).contains d = false := ⟨rfl, rfl, rfl, rfl, rfl, fun _ => rfl⟩
theorem cok_ref15_Len : COk Try.prog (cx_ref15_Len) := cok_of rfl (.cons ok_ref15_Right (.cons ok_ref01_Sub (.nil))) (.cons (fun _ => fn1_quiet) (.cons (fun _ => fn2_quiet) (.nil))) (.nil)
theorem ok_ref15_Len : Ok Try.prog 16 c_ref15_Len := by
  refine ok_fn1 cok_ref15_Len mixed Try.func16 rfl (by kernel_rfl) (by kernel_rfl) rfl ?_
  intro s om hw _
  obtain ⟨h1, h2⟩ := wf_2 hw
  by_cases h : s.a ≤ s.b
  · have h' : (s.a ≤ s.b) = True := eq_true h
    have e : (s.b + 340282366920938463463374607431768211456 - s.a) % 340282366920938463463374607431768211456 = s.b - s.a := by omega
    simp only [go_sem, Try.f16, kn1, kn2, kn3, kn4, kn5, kn6, kn7, kn8, kn9, kz1, kz2, kz3, kz4, kz5, kz6, kz7, kz8, kz9, kz0, reduceCtorEq, String.reduceEq, kn0, kq1, kq2, kq3, kq4, Int.toNat_natCast, h', e]
  · have h' : (s.a ≤ s.b) = False := eq_false h
    have e : s.b - s.a = 0 := by omega
    simp only [go_sem, Try.f16, kn1, kn2, kn3, kn4, kn5, kn6, kn7, kn8, kn9, kz1, kz2, kz3, kz4, kz5, kz6, kz7, kz8, kz9, kz0, reduceCtorEq, String.reduceEq, kn0, kq1, kq2, kq3, kq4, Int.toNat_natCast, h', e]
@[go_sem] noncomputable def c_ref15_Has : Cn := fn2 t2 tW (fun _ _ => True) fun s n => .b (decide (s.a ≤ n ∧ n < s.b))
noncomputable def cx_ref15_Has : Cx := { T := T, E := E, cs := [(37, c_ref01_Cmp)], sch := [], ob := [], qs := [37] }
@[go_sem] theorem cx_ref15_Has_e : cx_ref15_Has.gs = none ∧ cx_ref15_Has.md = 0 ∧ cx_ref15_Has.T = T ∧ cx_ref15_Has.E = E ∧ cx_ref15_Has.cs = [(37, c_ref01_Cmp)] ∧ ∀ d, (cx_ref15_Has.ob).contains d = false := ⟨rfl, rfl, rfl, rfl, rfl, fun _ => rfl⟩
theorem cok_ref15_Has : COk Try.prog (cx_ref15_Has) := cok_of rfl (.cons ok_ref01_Cmp (.nil)) (.cons (fun _ => fn2_quiet) (.nil)) (.nil)
theorem ok_ref15_Has : Ok Try.prog 18 c_ref15_Has := by
  refine ok_fn2 cok_ref15_Has mixed Try.func18 rfl (by kernel_rfl) (by kernel_rfl) rfl ?_
  intro s n om hw _
  simp only [go_sem, Try.f18, kn1, kn2, kn3, kn4, kn5, kn6, kn7, kn8, kn9, kz1, kz2, kz3, kz4, kz5, kz6, kz7, kz8, kz9, kz0, reduceCtorEq, String.reduceEq, kn0, kq1, kq2, kq3, kq4, Int.toNat_natCast, cmpN_ge', cmpN_lt']
  exact fun _ => ⟨fun h _ => decide_eq_decide.2 ⟨fun g => ⟨h, g⟩, fun g => g.2⟩, fun h => (decide_eq_false fun g => h g.1).symm⟩
@[go_sem] noncomputable def c_ref15_Meet : Cn := fn2 t2 t2 (fun _ _ => True) fun s t => .b (decide (meets s t))
noncomputable def cx_ref15_Meet : Cx := { T := T, E := E, cs := [(18, c_ref15_Has), (37, c_ref01_Cmp)], sch := [], ob := [], qs := [18, 37] }
@[go_sem] theorem cx_ref15_Meet_e : cx_ref15_Meet.gs = none ∧ cx_ref15_Meet.md = 0 ∧ cx_ref15_Meet.T = T ∧ cx_ref15_Meet.E = E ∧ cx_ref15_Meet.cs = [(18, c_ref15_Has), (37, c_ref01_Cmp)] ∧ ∀ d, (cx_ref15_Meet.ob).contains d = false := ⟨rfl, rfl, rfl, rfl, rfl, fun _ => rfl⟩
theorem cok_ref15_Meet : COk Try.prog (cx_ref15_Meet) := cok_of rfl (.cons ok_ref15_Has (.cons ok_ref01_Cmp (.nil))) (.cons (fun _ => fn2_quiet) (.cons (fun _ => fn2_quiet) (.nil))) (.nil)
theorem ok_ref15_Meet : Ok Try.prog 20 c_ref15_Meet := by
  refine ok_fn2 cok_ref15_Meet mixed Try.func20 rfl (by kernel_rfl) (by kernel_rfl) rfl ?_
  intro s t om hw _
  simp only [go_sem, Try.f20, kn1, kn2, kn3, kn4, kn5, kn6, kn7, kn8, kn9, kz1, kz2, kz3, kz4, kz5, kz6, kz7, kz8, kz9, kz0, reduceCtorEq, String.reduceEq, kn0, kq1, kq2, kq3, kq4, Int.toNat_natCast, cmpN_gt']
  exact fun _ => ⟨fun h => ⟨fun h1 => decide_eq_decide.2 (by unfold meets; omega), fun h1 => (decide_eq_false (by unfold meets; omega)).symm⟩, fun h => ⟨fun h1 => decide_eq_decide.2 (by unfold meets; omega), fun h1 => (decide_eq_false (by unfold meets; omega)).symm⟩⟩
@[go_sem] noncomputable def c_ref15_Take : Cn := fn2 t2 tW (fun _ _ => True) fun s n => .tup [v2 (takes s n).1, v2 (takes s n).2.1, .z (takes s n).2.2]
noncomputable def cx_ref15_Take : Cx := { T := T, E := E, cs := [(14, c_ref15_Right), (16, c_ref15_Len), (37, c_ref01_Cmp), (39, c_ref01_Add)], sch := [(3, false, .take 0 (.take 1 (.alt 2 (.alt 3 (.take 4 (.done)) .no) .no))), (6, false, .take 0 (.take 1 (.take 2 (.take 3 (.take 5 (.alt 4 (.alt 6 (.take 7 (.alt 8 (.alt 9 (.take 10 (.done)) .no) .no)) (.alt 8 (.take 6 (.take 7 (.alt 9 (.take 10 (.done)) .no))) (.no))) (.alt 6 (.alt 4 (.take 7 (.alt 8 (.alt 9 (.take 10 (.done)) .no) .no)) (.alt 8 (.take 4 (.take 7 (.alt 9 (.take 10 (.done)) .no))) (.no))) (.alt 8 (.take 4 (.take 6 (.take 7 (.alt 9 (.take 10 (.done)) .no)))) (.no)))))))))], ob := [], qs := [14, 16, 37, 39] }
@[go_sem] theorem cx_ref15_Take_e : cx_ref15_Take.gs = none ∧ cx_ref15_Take.md = 0 ∧ cx_ref15_Take.T = T ∧ cx_ref15_Take.E = E ∧ cx_ref15_Take.cs = [(14, c_ref15_Right), (16, c_ref15_Len), (37, c_ref01_Cmp), (39, c_ref01_Add)] ∧ cx_ref15_Take.sch = [(3, false, .take 0 (.take 1 (.alt 2 (.alt 3 (.take 4 (.done)) .no) .no))), (6, false, .take 0 (.take 1 (.take 2 (.take 3 (.take 5 (.alt 4 (.alt 6 (.take 7 (.alt 8 (.alt 9 (.take 10 (.done)) .no) .no)) (.alt 8 (.take 6 (.take 7 (.alt 9 (.take 10 (.done)) .no))) (.no))) (.alt 6 (.alt 4 (.take 7 (.alt 8 (.alt 9 (.take 10 (.done)) .no) .no)) (.alt 8 (.take 4 (.take 7 (.alt 9 (.take 10 (.done)) .no))) (.no))) (.alt 8 (.take 4 (.take 6 (.take 7 (.alt 9 (.take 10 (.done)) .no)))) (.no)))))))))] ∧ ∀ d, (cx_ref15_Take.ob).contains d = false := ⟨rfl, rfl, rfl, rfl, rfl, rfl, fun _ => rfl⟩
theorem cok_ref15_Take : COk Try.prog (cx_ref15_Take) := cok_of rfl (.cons ok_ref15_Right (.cons ok_ref15_Len (.cons ok_ref01_Cmp (.cons ok_ref01_Add (.nil))))) (.cons (fun _ => fn1_quiet) (.cons (fun _ => fn1_quiet) (.cons (fun _ => fn2_quiet) (.cons (fun _ => fn2_quiet) (.nil))))) (.nil)
theorem ok_ref15_Take : Ok Try.prog 12 c_ref15_Take := by
  refine ok_fn2 cok_ref15_Take mixed Try.func12 rfl (by kernel_rfl) (by kernel_rfl) rfl ?_
  intro s n om hw _
  obtain ⟨h1, h2⟩ := wf_2 hw
  by_cases c1 : s.b < s.a
  · have e : takes s n = (z2, z2, 1) := by unfold takes; rw [if_pos c1]
    have c1' : (s.a ≤ s.b) = False := eq_false (by omega)
    simp only [go_sem, Try.f12, kn1, kn2, kn3, kn4, kn5, kn6, kn7, kn8, kn9, kz1, kz2, kz3, kz4, kz5, kz6, kz7, kz8, kz9, kz0, reduceCtorEq, String.reduceEq, kn0, kq1, kq2, kq3, kq4, Int.toNat_natCast, cmpN_gt', c1', e, z2]
  have c1' : (s.a ≤ s.b) = True := eq_true (by omega)
  by_cases c2 : s.b - s.a < n
  · have e : takes s n = (z2, z2, 7) := by unfold takes; rw [if_neg c1, if_pos c2]
    have c2' : (s.b - s.a < n) = True := eq_true c2
    simp only [go_sem, Try.f12, kn1, kn2, kn3, kn4, kn5, kn6, kn7, kn8, kn9, kz1, kz2, kz3, kz4, kz5, kz6, kz7, kz8, kz9, kz0, reduceCtorEq, String.reduceEq, kn0, kq1, kq2, kq3, kq4, Int.toNat_natCast, cmpN_gt', c1', c2', e, z2]
  have e : takes s n = (⟨s.a, s.a + n⟩, ⟨s.a + n, s.b⟩, 0) := by unfold takes; rw [if_neg c1, if_neg c2]
  have c2' : (s.b - s.a < n) = False := eq_false c2
  have e1 : (s.a + n) % 340282366920938463463374607431768211456 = s.a + n := Nat.mod_eq_of_lt (by omega)
  simp only [go_sem, Try.f12, kn1, kn2, kn3, kn4, kn5, kn6, kn7, kn8, kn9, kz1, kz2, kz3, kz4, kz5, kz6, kz7, kz8, kz9, kz0, reduceCtorEq, String.reduceEq, kn0, kq1, kq2, kq3, kq4, Int.toNat_natCast, cmpN_gt', c1', c2', e, e1]
@[go_sem] noncomputable def c_ref15_Halves : Cn := fn1 t2 (fun _ => True) fun s => .tup [v2 (halve s).1, v2 (halve s).2.1, .z (halve s).2.2]
noncomputable def cx_ref15_Halves : Cx := { T := T, E := E, cs := [(12, c_ref15_Take), (14, c_ref15_Right), (16, c_ref15_Len), (37, c_ref01_Cmp), (38, c_ref01_Right), (39, c_ref01_Add)], sch := [], ob := [], qs := [12, 14, 16, 37, 38, 39] }
@[go_sem] theorem cx_ref15_Halves_e : cx_ref15_Halves.gs = none ∧ cx_ref15_Halves.md = 0 ∧ cx_ref15_Halves.T = T ∧ cx_ref15_Halves.E = E ∧ cx_ref15_Halves.cs = [(12, c_ref15_Take), (14, c_ref15_Right), (16, c_ref15_Len), (37, c_ref01_Cmp), (38, c_ref01_Right), (39, c_ref01_Add)] ∧ ∀ d, (cx_ref15_Halves.ob).contains d = false := ⟨rfl, rfl, rfl, rfl, rfl, fun _ => rfl⟩
theorem cok_ref15_Halves : COk Try.prog (cx_ref15_Halves) := cok_of rfl (.cons ok_ref15_Take (.cons ok_ref15_Right (.cons ok_ref15_Len (.cons ok_ref01_Cmp (.cons ok_ref01_Right (.cons ok_ref01_Add (.nil))))))) (.cons (fun _ => fn2_quiet) (.cons (fun _ => fn1_quiet) (.cons (fun _ => fn1_quiet) (.cons (fun _ => fn2_quiet) (.cons (fun _ => fn2_quiet) (.cons (fun _ => fn2_quiet) (.nil))))))) (.nil)
theorem ok_ref15_Halves : Ok Try.prog 9 c_ref15_Halves := by
  refine ok_fn1 cok_ref15_Halves mixed Try.func9 rfl (by kernel_rfl) (by kernel_rfl) rfl ?_
  intro s om hw _
  obtain ⟨h1, h2⟩ := wf_2 hw
  have d2 := tW_lit (l := 2) (by omega)
  have d1 := tW_lit (l := 1) (by omega)
  by_cases c1 : s.b < s.a
  · have e : halve s = (z2, z2, 1) := by unfold halve; rw [if_pos c1]
    have c1' : (s.a ≤ s.b) = False := eq_false (by omega)
    simp only [go_sem, Try.f9, kn1, kn2, kn3, kn4, kn5, kn6, kn7, kn8, kn9, kz1, kz2, kz3, kz4, kz5, kz6, kz7, kz8, kz9, kz0, reduceCtorEq, String.reduceEq, kn0, kq1, kq2, kq3, kq4, Int.toNat_natCast, c1', e, z2]
  have c1' : (s.a ≤ s.b) = True := eq_true (by omega)
  by_cases c2 : s.b - s.a < 2
  · have e : halve s = (z2, z2, 6) := by unfold halve; rw [if_neg c1, if_pos c2]
    have c2' : (s.b - s.a < 2) = True := eq_true c2
    simp only [go_sem, Try.f9, kn1, kn2, kn3, kn4, kn5, kn6, kn7, kn8, kn9, kz1, kz2, kz3, kz4, kz5, kz6, kz7, kz8, kz9, kz0, reduceCtorEq, String.reduceEq, kn0, kq1, kq2, kq3, kq4, Int.toNat_natCast, cmpN_lt', d2, c1', c2', e, z2]
  have e : halve s = (⟨s.a, s.a + (s.b - s.a + 1) / 2⟩, ⟨s.a + (s.b - s.a + 1) / 2, s.b⟩, 0) := by unfold halve; rw [if_neg c1, if_neg c2]
  have c2' : (s.b - s.a < 2) = False := eq_false c2
  have et : takes s ((s.b - s.a + 1) / 2) = (⟨s.a, s.a + (s.b - s.a + 1) / 2⟩, ⟨s.a + (s.b - s.a + 1) / 2, s.b⟩, 0) := by unfold takes; rw [if_neg c1, if_neg (by omega)]
  by_cases c3 : (s.b - s.a) % 18446744073709551616 % 2 = 1
  · have c3' : ((s.b - s.a) % 18446744073709551616 % 2 = 1) = True := eq_true c3
    have e1 : ((s.b - s.a) >>> 1 + 1) % 340282366920938463463374607431768211456 = (s.b - s.a + 1) / 2 := by rw [Nat.shiftRight_eq_div_pow]; omega
    simp only [go_sem, Try.f9, kn1, kn2, kn3, kn4, kn5, kn6, kn7, kn8, kn9, kz1, kz2, kz3, kz4, kz5, kz6, kz7, kz8, kz9, kz0, reduceCtorEq, String.reduceEq, kn0, kq1, kq2, kq3, kq4, Int.toNat_natCast, cmpN_lt', d1, d2, c1', c2', c3', e, e1, et]
  · have c3' : ((s.b - s.a) % 18446744073709551616 % 2 = 1) = False := eq_false c3
    have e1 : (s.b - s.a) >>> 1 = (s.b - s.a + 1) / 2 := by rw [Nat.shiftRight_eq_div_pow]; omega
    simp only [go_sem, Try.f9, kn1, kn2, kn3, kn4, kn5, kn6, kn7, kn8, kn9, kz1, kz2, kz3, kz4, kz5, kz6, kz7, kz8, kz9, kz0, reduceCtorEq, String.reduceEq, kn0, kq1, kq2, kq3, kq4, Int.toNat_natCast, cmpN_lt', d1, d2, c1', c2', c3', e, e1, et]
@[go_sem] noncomputable def c_law15_One : Cn := fn1 t2 (fun _ => True) v2
noncomputable def cx_law15_One : Cx := { T := T, E := E, cs := [], sch := [], ob := [], qs := [] }
@[go_sem] theorem cx_law15_One_e : cx_law15_One.gs = none ∧ cx_law15_One.md = 0 ∧ cx_law15_One.T = T ∧ cx_law15_One.E = E ∧ cx_law15_One.cs = [] ∧ ∀ d, (cx_law15_One.ob).contains d = false := ⟨rfl, rfl, rfl, rfl, rfl, fun _ => rfl⟩
theorem cok_law15_One : COk Try.prog (cx_law15_One) := cok_of rfl (.nil) (.nil) (.nil)
theorem ok_law15_One : Ok Try.prog 10 c_law15_One := by
  refine ok_fn1 cok_law15_One mixed Try.func10 rfl (by kernel_rfl) (by kernel_rfl) rfl ?_
  intro s om hw _
  simp only [go_sem, Try.f10, kn1, kn2, kn3, kn4, kn5, kn6, kn7, kn8, kn9, kz1, kz2, kz3, kz4, kz5, kz6, kz7, kz8, kz9, kz0, reduceCtorEq, String.reduceEq, kn0, kq1, kq2, kq3, kq4, Int.toNat_natCast]
@[go_sem] noncomputable def c_law15_sp : Cn := fn2 (tN .u64) (tN .u64) (fun _ _ => True) fun x y => v2 ⟨x, y⟩
noncomputable def cx_law15_sp : Cx := { T := T, E := E, cs := [(31, c_wide_Of)], sch := [], ob := [], qs := [31] }
@[go_sem] theorem cx_law15_sp_e : cx_law15_sp.gs = none ∧ cx_law15_sp.md = 0 ∧ cx_law15_sp.T = T ∧ cx_law15_sp.E = E ∧ cx_law15_sp.cs = [(31, c_wide_Of)] ∧ ∀ d, (cx_law15_sp.ob).contains d = false := ⟨rfl, rfl, rfl, rfl, rfl, fun _ => rfl⟩
theorem cok_law15_sp : COk Try.prog (cx_law15_sp) := cok_of rfl (.cons ok_wide_Of (.nil)) (.cons (fun _ => fn1_quiet) (.nil)) (.nil)
theorem ok_law15_sp : Ok Try.prog 33 c_law15_sp := by
  refine ok_fn2 cok_law15_sp mixed Try.func33 rfl (by kernel_rfl) (by kernel_rfl) rfl ?_
  intro x y om hw _
  simp only [go_sem, Try.f33, kn1, kn2, kn3, kn4, kn5, kn6, kn7, kn8, kn9, kz1, kz2, kz3, kz4, kz5, kz6, kz7, kz8, kz9, kz0, reduceCtorEq, String.reduceEq, kn0, kq1, kq2, kq3, kq4, Int.toNat_natCast]
end Go.Proofs.Ytlcnohmnemmbdaa.I
