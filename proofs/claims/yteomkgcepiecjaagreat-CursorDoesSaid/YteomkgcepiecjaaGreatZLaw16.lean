/- Chapter 16: awake. -/
import Derived.Test.YteomkgcepiecjaaGreatZCur3
import Derived.Test.YteomkgcepiecjaaGreatZLaw14
namespace Go.Proofs.YteomkgcepiecjaaGreat.I
open Go
open Nat renaming reduceEqDiff → kn1, reduceBEq → kn2, reducePow → kn3, reduceMod → kn4, reduceAdd → kn5, reduceSub → kn6, reduceMul → kn7, reduceDiv → kn8, reduceLeDiff → kn9, reduceLT → kn0, zero_lt_one → kq1, zero_add → kq2, zero_le → kq3, le_refl → kq4
open Int renaming reduceToNat → kz1, reduceAdd → kz2, reduceSub → kz3, reduceMul → kz4, reduceDiv → kz5, reduceMod → kz6, reduceLE → kz7, reduceLT → kz8, reduceNeg → kz9, reduceEq → kz0
set_option maxRecDepth 100000
set_option linter.unusedSimpArgs false
set_option linter.unusedVariables false
theorem cu_mk {k k' : Int} {n n' p p' m m' : Nat} (h1 : k = k') (h2 : n = n') (h3 : p = p') (h4 : m = m') : (⟨k, n, p, m⟩ : Cu) = ⟨k', n', p', m'⟩ := by rw [h1, h2, h3, h4]
theorem e16_n0 : Cu.next ⟨1, 0, 0, 0⟩ = ⟨1, 0, 1, 7⟩ := cu_mk (by decide) (by decide) (by decide) (by decide)
theorem e16_n2 : Cu.next ⟨1, 0, 2, 6⟩ = ⟨1, 0, 3, 5⟩ := cu_mk (by decide) (by decide) (by decide) (by decide)
theorem e16_s1 : Cu.skip ⟨1, 0, 1, 7⟩ 1 = ⟨1, 0, 2, 6⟩ := cu_mk (by decide) (by decide) (by decide) (by decide)
theorem e16_s2 : Cu.skip ⟨1, 0, 2, 6⟩ 9223372036854775806 = ⟨1, 0, 9223372036854775808, 0⟩ := cu_mk (by decide) (by decide) (by decide) (by decide)
theorem e16_w0 : wAt 1 0 0 = 16294208416658607535 := by decide +kernel
theorem e16_w2 : wAt 1 0 2 = 487617019471545679 := by decide +kernel
theorem e16_b1 : (Cu.buf ⟨1, 0, 1, 7⟩).length = 7 := by simp [Cu.buf]
theorem e16_b3 : (Cu.buf ⟨1, 0, 3, 5⟩).length = 5 := by simp [Cu.buf]
theorem e16_b0 : (Cu.buf ⟨1, 0, 9223372036854775808, 0⟩).length = 0 := by simp [Cu.buf]
theorem e16_e0 : nerr 1 0 = 0 := by decide +kernel
theorem e16_e5 : nerr 5 0 = 2 := by decide +kernel
theorem e16_e9 : nerr 1 9223372036854775809 = 10 := by decide +kernel
@[go_sem] def c_law16_awake : Cn := fn0 (.b true)
noncomputable def cx_law16_awake : Cx := { T := T, E := E, cs := [(16, c_cursor_New), (17, c_wide_Of), (22, c_cursor_Cursor_State), (23, c_cursor_Cursor_Next), (25, c_cursor_Cursor_Skip), (27, c_cursor_Cursor_Place), (29, c_cursor_Cursor_Buffered), (31, c_cursor_Cursor_Kind), (32, c_cursor_Cursor_Seed), (34, c_cursor_Cursor_Copy)], sch := [], ob := [], qs := [16, 17, 22, 27, 29, 31, 32, 34] }
@[go_sem] theorem cx_law16_awake_e : cx_law16_awake.gs = none ∧ cx_law16_awake.md = 0 ∧ cx_law16_awake.T = T ∧ cx_law16_awake.E = E ∧ cx_law16_awake.cs = [(16, c_cursor_New), (17, c_wide_Of), (22, c_cursor_Cursor_State), (23, c_cursor_Cursor_Next), (25, c_cursor_Cursor_Skip), (27, c_cursor_Cursor_Place), (29, c_cursor_Cursor_Buffered), (31, c_cursor_Cursor_Kind), (32, c_cursor_Cursor_Seed), (34, c_cursor_Cursor_Copy)] ∧ ∀ d, (cx_law16_awake.ob).contains d = false := ⟨rfl, rfl, rfl, rfl, rfl, fun _ => rfl⟩
theorem cok_law16_awake : COk Tryz.prog (cx_law16_awake) := cok_of rfl (.cons ok_cursor_New (.cons ok_wide_Of (.cons ok_cursor_Cursor_State (.cons ok_cursor_Cursor_Next (.cons ok_cursor_Cursor_Skip (.cons ok_cursor_Cursor_Place (.cons ok_cursor_Cursor_Buffered (.cons ok_cursor_Cursor_Kind (.cons ok_cursor_Cursor_Seed (.cons ok_cursor_Cursor_Copy (.nil))))))))))) (.cons (fun _ => nw3_quiet) (.cons (fun _ => fn1_quiet) (.cons (fun _ => om0_quiet) (.cons (fun h => absurd h (by decide)) (.cons (fun h => absurd h (by decide)) (.cons (fun _ => om0_quiet) (.cons (fun _ => om0_quiet) (.cons (fun _ => om0_quiet) (.cons (fun _ => om0_quiet) (.cons (fun _ => cp0_quiet) (.nil))))))))))) (.nil)
set_option maxHeartbeats 4000000 in
theorem ok_law16_awake : Ok Tryz.prog 14 c_law16_awake := by
  refine ok_fn0 cok_law16_awake mixed Tryz.func14 rfl (by kernel_rfl) (by kernel_rfl) rfl ?_
  intro om
  have d0' := tW_lit (l := 0) (by omega)
  have d1 := tW_lit (l := 1) (by omega)
  have d3 := tW_lit (l := 3) (by omega)
  have d63 := tW_lit (l := 9223372036854775808) (by omega)
  have d64 := tW_lit (l := 9223372036854775809) (by omega)
  have d62 := tW_lit (l := 9223372036854775806) (by omega)
  simp (maxSteps := 10000000) only [go_sem, Tryz.f14, kn1, kn2, kn3, kn4, kn5, kn6, kn7, kn8, kn9, kz1, kz2, kz3, kz4, kz5, kz6, kz7, kz8, kz9, kz0, reduceCtorEq, String.reduceEq, kn0, kq1, kq2, kq3, kq4, Int.toNat_natCast, d0', d1, d3, d63, d64, d62, new_iff, e16_n0, e16_n2, e16_s1, e16_s2, e16_w0, e16_w2, e16_b1, e16_b3, e16_b0, e16_e0, e16_e5, e16_e9, e14_l1, e14_c3, tG_1, gz, x0, d0, h0, k0, GS.mk.injEq]
  refine fun i hi cs hcs => ?_
  simp (maxSteps := 10000000) only [go_sem, kn1, kn2, kn3, kn4, kn5, kn6, kn7, kn8, kn9, kz1, kz2, kz3, kz4, kz5, kz6, kz7, kz8, kz9, kz0, reduceCtorEq, String.reduceEq, kn0, kq1, kq2, kq3, kq4, Int.toNat_natCast, hcs, d0', d1, d3, d63, d64, d62, new_iff, e16_n0, e16_n2, e16_s1, e16_s2, e16_w0, e16_w2, e16_b1, e16_b3, e16_b0, e16_e0, e16_e5, e16_e9, e14_l1, e14_c3, tG_1, gz, x0, d0, h0, k0, GS.mk.injEq]
  refine fun cs1 h1 => ?_
  simp (maxSteps := 10000000) only [go_sem, kn1, kn2, kn3, kn4, kn5, kn6, kn7, kn8, kn9, kz1, kz2, kz3, kz4, kz5, kz6, kz7, kz8, kz9, kz0, reduceCtorEq, String.reduceEq, kn0, kq1, kq2, kq3, kq4, Int.toNat_natCast, h1, d0', d1, d3, d63, d64, d62, new_iff, e16_n0, e16_n2, e16_s1, e16_s2, e16_w0, e16_w2, e16_b1, e16_b3, e16_b0, e16_e0, e16_e5, e16_e9, e14_l1, e14_c3, tG_1, gz, x0, d0, h0, k0, GS.mk.injEq]
  intros
  refine fun cs2 h2 => ?_
  simp (maxSteps := 10000000) only [go_sem, kn1, kn2, kn3, kn4, kn5, kn6, kn7, kn8, kn9, kz1, kz2, kz3, kz4, kz5, kz6, kz7, kz8, kz9, kz0, reduceCtorEq, String.reduceEq, kn0, kq1, kq2, kq3, kq4, Int.toNat_natCast, h2, d0', d1, d3, d63, d64, d62, new_iff, e16_n0, e16_n2, e16_s1, e16_s2, e16_w0, e16_w2, e16_b1, e16_b3, e16_b0, e16_e0, e16_e5, e16_e9, e14_l1, e14_c3, tG_1, gz, x0, d0, h0, k0, GS.mk.injEq]
  refine fun j hj ds hds => ?_
  have nj : ¬ j = i ∧ ¬ i = j ∧ om j = none := by simpa only [Om.put, new_iff] using hj
  have n1 := eq_false nj.1
  have n2 := eq_false nj.2.1
  simp (maxSteps := 10000000) only [go_sem, kn1, kn2, kn3, kn4, kn5, kn6, kn7, kn8, kn9, kz1, kz2, kz3, kz4, kz5, kz6, kz7, kz8, kz9, kz0, reduceCtorEq, String.reduceEq, kn0, kq1, kq2, kq3, kq4, Int.toNat_natCast, hds, n1, n2, d0', d1, d3, d63, d64, d62, new_iff, e16_n0, e16_n2, e16_s1, e16_s2, e16_w0, e16_w2, e16_b1, e16_b3, e16_b0, e16_e0, e16_e5, e16_e9, e14_l1, e14_c3, tG_1, gz, x0, d0, h0, k0, GS.mk.injEq]
  refine fun ds1 g1 => ?_
  simp (maxSteps := 10000000) only [go_sem, kn1, kn2, kn3, kn4, kn5, kn6, kn7, kn8, kn9, kz1, kz2, kz3, kz4, kz5, kz6, kz7, kz8, kz9, kz0, reduceCtorEq, String.reduceEq, kn0, kq1, kq2, kq3, kq4, Int.toNat_natCast, g1, h2, n1, n2, d0', d1, d3, d63, d64, d62, new_iff, e16_n0, e16_n2, e16_s1, e16_s2, e16_w0, e16_w2, e16_b1, e16_b3, e16_b0, e16_e0, e16_e5, e16_e9, e14_l1, e14_c3, tG_1, gz, x0, d0, h0, k0, GS.mk.injEq]
  refine fun cs3 h3 => ?_
  simp (maxSteps := 10000000) only [go_sem, kn1, kn2, kn3, kn4, kn5, kn6, kn7, kn8, kn9, kz1, kz2, kz3, kz4, kz5, kz6, kz7, kz8, kz9, kz0, reduceCtorEq, String.reduceEq, kn0, kq1, kq2, kq3, kq4, Int.toNat_natCast, h3, g1, n1, n2, d0', d1, d3, d63, d64, d62, new_iff, e16_n0, e16_n2, e16_s1, e16_s2, e16_w0, e16_w2, e16_b1, e16_b3, e16_b0, e16_e0, e16_e5, e16_e9, e14_l1, e14_c3, tG_1, gz, x0, d0, h0, k0, GS.mk.injEq]
  intros
  exact .put hi (.put nj.2.2 (.put hi (.refl _)))
end Go.Proofs.YteomkgcepiecjaaGreat.I
