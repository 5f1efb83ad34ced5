/- Chapter 14: SeedTells, as a contract. -/
import Derived.Test.YtggpbjhmpipplaaGreatLaw14
import Derived.Test.YtggpbjhmpipplaaGreatRef14
import Derived.Test.YtggpbjhmpipplaaGreatRef13c
namespace Go.Proofs.YtggpbjhmpipplaaGreat.I
open Go
open Nat renaming reduceEqDiff → kn1, reduceBEq → kn2, reducePow → kn3, reduceMod → kn4, reduceAdd → kn5, reduceSub → kn6, reduceMul → kn7, reduceDiv → kn8, reduceLeDiff → kn9, reduceLT → kn0, zero_lt_one → kq1, zero_add → kq2, zero_le → kq3, le_refl → kq4
open Int renaming reduceToNat → kz1, reduceAdd → kz2, reduceSub → kz3, reduceMul → kz4, reduceDiv → kz5, reduceMod → kz6, reduceLE → kz7, reduceLT → kz8, reduceNeg → kz9, reduceEq → kz0
set_option maxRecDepth 10000
set_option linter.unusedSimpArgs false
set_option linter.unusedVariables false

@[go_sem] noncomputable def c_law14_SeedTells : Cn := fn4 tZ (tN .u64) (tN .u8) tZ (fun _ _ _ _ => True) fun _ _ _ _ => .b true
noncomputable def cx_law14_SeedTells : Cx := { T := T, E := E, cs := [(12, c_law14_awake), (13, c_seed_New), (14, c_ref14_New), (15, c_seed_At), (16, c_wide_Of), (17, c_seed_Some), (18, c_law13_Own), (19, c_ref13_Jump), (20, c_seed_Is), (21, c_ref02_Words), (22, c_ref14_Some)], sch := [(9, false, .take 0 (.take 2 (.alt 1 (.take 3 (.take 4 (.take 5 (.take 6 (.take 7 (.take 8 (.done))))))) .no))), (13, false, .take 0 (.take 1 (.take 2 (.take 3 (.take 5 (.take 6 (.take 7 (.alt 4 (.alt 8 (.take 9 (.take 10 (.take 11 (.take 12 (.take 13 (.take 14 (.take 15 (.take 16 (.alt 17 (.alt 18 (.take 19 (.take 20 (.done))) .no) .no))))))))) .no) .no))))))))], ob := [], qs := [12, 13, 14, 15, 16, 17, 18, 19, 20, 21, 22] }
@[go_sem] theorem cx_law14_SeedTells_e : cx_law14_SeedTells.gs = none ∧ cx_law14_SeedTells.md = 0 ∧ cx_law14_SeedTells.T = T ∧ cx_law14_SeedTells.E = E ∧ cx_law14_SeedTells.cs = [(12, c_law14_awake), (13, c_seed_New), (14, c_ref14_New), (15, c_seed_At), (16, c_wide_Of), (17, c_seed_Some), (18, c_law13_Own), (19, c_ref13_Jump), (20, c_seed_Is), (21, c_ref02_Words), (22, c_ref14_Some)] ∧ cx_law14_SeedTells.sch = [(9, false, .take 0 (.take 2 (.alt 1 (.take 3 (.take 4 (.take 5 (.take 6 (.take 7 (.take 8 (.done))))))) .no))), (13, false, .take 0 (.take 1 (.take 2 (.take 3 (.take 5 (.take 6 (.take 7 (.alt 4 (.alt 8 (.take 9 (.take 10 (.take 11 (.take 12 (.take 13 (.take 14 (.take 15 (.take 16 (.alt 17 (.alt 18 (.take 19 (.take 20 (.done))) .no) .no))))))))) .no) .no))))))))] ∧ ∀ d, (cx_law14_SeedTells.ob).contains d = false := ⟨rfl, rfl, rfl, rfl, rfl, rfl, fun _ => rfl⟩
theorem cok_law14_SeedTells : COk Tryz.prog (cx_law14_SeedTells) := cok_of rfl (.cons ok_law14_awake (.cons ok_seed_New (.cons ok_ref14_New (.cons ok_seed_At (.cons ok_wide_Of (.cons ok_seed_Some (.cons ok_law13_Own (.cons ok_ref13_Jump (.cons ok_seed_Is (.cons ok_ref02_Words (.cons ok_ref14_Some (.nil)))))))))))) (.cons (fun _ => fn0_quiet) (.cons (fun _ => fn2i_quiet) (.cons (fun _ => fn2i_quiet) (.cons (fun _ => fn3j_quiet) (.cons (fun _ => fn1_quiet) (.cons (fun _ => fn4i_quiet) (.cons (fun _ => fn1_quiet) (.cons (fun _ => fn2_quiet) (.cons (fun _ => fn4_quiet) (.cons (fun _ => fn2_quiet) (.cons (fun _ => fn4_quiet) (.nil)))))))))))) (.nil)
set_option maxHeartbeats 8000000 in
theorem ok_law14_SeedTells : Ok Tryz.prog 3 c_law14_SeedTells := by
  refine ok_fn4 cok_law14_SeedTells mixed Tryz.func3 rfl (by kernel_rfl) (by kernel_rfl) rfl ?_
  intro k n q m om hw _
  have hn : n < 18446744073709551616 := hw.2.1
  have hq : q < 256 := hw.2.2.1
  by_cases c1 : 100 < q
  · have c1' : (100 < q) = True := eq_true c1
    simp (maxSteps := 10000000) only [go_sem, Tryz.f3, kn1, kn2, kn3, kn4, kn5, kn6, kn7, kn8, kn9, kz1, kz2, kz3, kz4, kz5, kz6, kz7, kz8, kz9, kz0, reduceCtorEq, String.reduceEq, kn0, kq1, kq2, kq3, kq4, Int.toNat_natCast, c1']
  have c1' : (100 < q) = False := eq_false c1
  have qm : q % 18446744073709551616 = q := Nat.mod_eq_of_lt (by omega)
  have qd : q / 18446744073709551616 = 0 := Nat.div_eq_of_lt (by omega)
  have dq := tW_lit (l := q) (by omega)
  by_cases hk : 1 ≤ k ∧ k ≤ 4
  · have h1 : (1 ≤ k) = True := eq_true hk.1
    have h4 : (k ≤ 4) = True := eq_true hk.2
    obtain ⟨s1, s2, s3⟩ := snew_ok hk hn
    have e := gst_gjump s1 s2 q
    have hl : q < glim k := by
      obtain rfl | rfl | rfl | rfl : k = 1 ∨ k = 2 ∨ k = 3 ∨ k = 4 := by omega
      all_goals (have : ∀ x, 9223372036854775808 ≤ x → q < x := fun x h => by omega); apply this; decide
    have l1 : (q < glim k) = True := eq_true hl
    have l2 : (glim k ≤ q) = False := eq_false (by omega)
    by_cases hm : m < 0 ∨ 256 < m
    · have z : ssome k q m = 1 := by unfold ssome; rw [if_pos hk, if_neg (by omega), if_pos hm]
      rcases hm with hm | hm
      · have m1 : (m < 0) = True := eq_true hm
        simp (maxSteps := 10000000) only [go_sem, Tryz.f3, kn1, kn2, kn3, kn4, kn5, kn6, kn7, kn8, kn9, kz1, kz2, kz3, kz4, kz5, kz6, kz7, kz8, kz9, kz0, reduceCtorEq, String.reduceEq, kn0, kq1, kq2, kq3, kq4, Int.toNat_natCast, c1', qm, qd, dq, h1, h4, l1, l2, m1, z, e]
        intros; omega
      · have m1 : (m < 0) = False := eq_false (by omega)
        have m2 : (256 < m) = True := eq_true hm
        simp (maxSteps := 10000000) only [go_sem, Tryz.f3, kn1, kn2, kn3, kn4, kn5, kn6, kn7, kn8, kn9, kz1, kz2, kz3, kz4, kz5, kz6, kz7, kz8, kz9, kz0, reduceCtorEq, String.reduceEq, kn0, kq1, kq2, kq3, kq4, Int.toNat_natCast, c1', qm, qd, dq, h1, h4, l1, l2, m1, m2, z, e]
        intros; omega
    · have z : ssome k q m = 0 := by unfold ssome; rw [if_pos hk, if_neg (by omega), if_neg hm]
      have m1 : (m < 0) = False := eq_false (by omega)
      have m2 : (256 < m) = False := eq_false (by omega)
      simp (maxSteps := 10000000) only [go_sem, Tryz.f3, kn1, kn2, kn3, kn4, kn5, kn6, kn7, kn8, kn9, kz1, kz2, kz3, kz4, kz5, kz6, kz7, kz8, kz9, kz0, reduceCtorEq, String.reduceEq, kn0, kq1, kq2, kq3, kq4, Int.toNat_natCast, c1', qm, qd, dq, h1, h4, l1, l2, m1, m2, z, e]
      intros; omega
  · have hk' : (1 ≤ k ∧ k ≤ 4) = False := eq_false hk
    have z : ssome k q m = 2 := by unfold ssome; rw [if_neg hk]
    simp (maxSteps := 10000000) only [go_sem, Tryz.f3, kn1, kn2, kn3, kn4, kn5, kn6, kn7, kn8, kn9, kz1, kz2, kz3, kz4, kz5, kz6, kz7, kz8, kz9, kz0, reduceCtorEq, String.reduceEq, kn0, kq1, kq2, kq3, kq4, Int.toNat_natCast, c1', qm, qd, dq, hk', z, tG_1, gz, x0, d0, h0, k0]
end Go.Proofs.YtggpbjhmpipplaaGreat.I
