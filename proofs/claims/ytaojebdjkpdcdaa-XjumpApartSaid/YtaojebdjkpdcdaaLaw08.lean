/- Chapter 8: awake. -/
import Derived.Test.YtaojebdjkpdcdaaXjump2
import Derived.Test.YtaojebdjkpdcdaaWide2
namespace Go.Proofs.Ytaojebdjkpdcdaa.I
open Go
set_option maxRecDepth 10000
set_option linter.unusedSimpArgs false
set_option linter.unusedVariables false

def c_law08_awake : Cn := fn0 (.b true)
noncomputable def cx_law08_awake : Cx := { T := T, E := E, cs := [(26, c_gfp_Deg), (27, c_wide_Of), (34, c_gfp_Same), (35, c_gfp_X), (40, c_xjump_Jump), (41, c_xjump_Powers), (42, c_xjump_At), (49, c_xjump_Rule), (53, c_xosh_Add), (68, c_xosh_Step), (69, c_xjump_Poly)], sch := [(2, false, .take 0 (.alt 1 (.alt 2 (.take 3 (.take 4 (.take 5 (.alt 6 (.alt 7 (.take 8 (.done)) .no) .no)))) (.alt 6 (.alt 2 (.take 3 (.take 4 (.take 5 (.alt 7 (.take 8 (.done)) .no)))) .no) (.no))) (.alt 6 (.alt 1 (.alt 2 (.take 3 (.take 4 (.take 5 (.alt 7 (.take 8 (.done)) .no)))) .no) .no) (.no)))), (3, false, .take 0 (.alt 1 (.alt 2 (.take 3 (.take 4 (.take 5 (.alt 6 (.alt 7 (.take 8 (.done)) .no) .no)))) (.alt 6 (.alt 2 (.take 3 (.take 4 (.take 5 (.alt 7 (.take 8 (.done)) .no)))) .no) (.no))) (.alt 6 (.alt 1 (.alt 2 (.take 3 (.take 4 (.take 5 (.alt 7 (.take 8 (.done)) .no)))) .no) .no) (.no)))), (8, false, .take 0 (.take 1 (.take 2 (.take 3 (.take 4 (.take 5 (.take 6 (.take 7 (.take 8 (.take 9 (.take 10 (.take 11 (.take 12 (.take 13 (.take 14 (.take 15 (.take 16 (.take 17 (.take 18 (.alt 19 (.take 20 (.take 21 (.take 22 (.take 23 (.take 24 (.take 25 (.take 26 (.take 27 (.take 28 (.take 29 (.take 30 (.take 31 (.take 32 (.take 33 (.take 34 (.alt 35 (.alt 36 (.take 37 (.take 38 (.take 39 (.take 41 (.take 43 (.take 44 (.alt 40 (.alt 42 (.alt 45 (.take 46 (.take 47 (.take 48 (.take 49 (.take 51 (.alt 50 (.take 52 (.take 53 (.take 54 (.alt 55 (.alt 56 (.alt 57 (.alt 58 (.take 59 (.take 60 (.done))) .no) .no) .no) .no)))) .no)))))) .no) .no) .no))))))) .no) .no)))))))))))))))) .no))))))))))))))))))))], ob := [], qs := [26, 27, 34, 35, 40, 41, 42, 49, 53, 68, 69] }
@[go_sem] theorem cx_law08_awake_md : cx_law08_awake.md = 0 := rfl
@[go_sem] theorem cx_law08_awake_T : cx_law08_awake.T = T := rfl
@[go_sem] theorem cx_law08_awake_E : cx_law08_awake.E = E := rfl
@[go_sem] theorem cx_law08_awake_cs : cx_law08_awake.cs = [(26, c_gfp_Deg), (27, c_wide_Of), (34, c_gfp_Same), (35, c_gfp_X), (40, c_xjump_Jump), (41, c_xjump_Powers), (42, c_xjump_At), (49, c_xjump_Rule), (53, c_xosh_Add), (68, c_xosh_Step), (69, c_xjump_Poly)] := rfl
@[go_sem] theorem cx_law08_awake_sch : cx_law08_awake.sch = [(2, false, .take 0 (.alt 1 (.alt 2 (.take 3 (.take 4 (.take 5 (.alt 6 (.alt 7 (.take 8 (.done)) .no) .no)))) (.alt 6 (.alt 2 (.take 3 (.take 4 (.take 5 (.alt 7 (.take 8 (.done)) .no)))) .no) (.no))) (.alt 6 (.alt 1 (.alt 2 (.take 3 (.take 4 (.take 5 (.alt 7 (.take 8 (.done)) .no)))) .no) .no) (.no)))), (3, false, .take 0 (.alt 1 (.alt 2 (.take 3 (.take 4 (.take 5 (.alt 6 (.alt 7 (.take 8 (.done)) .no) .no)))) (.alt 6 (.alt 2 (.take 3 (.take 4 (.take 5 (.alt 7 (.take 8 (.done)) .no)))) .no) (.no))) (.alt 6 (.alt 1 (.alt 2 (.take 3 (.take 4 (.take 5 (.alt 7 (.take 8 (.done)) .no)))) .no) .no) (.no)))), (8, false, .take 0 (.take 1 (.take 2 (.take 3 (.take 4 (.take 5 (.take 6 (.take 7 (.take 8 (.take 9 (.take 10 (.take 11 (.take 12 (.take 13 (.take 14 (.take 15 (.take 16 (.take 17 (.take 18 (.alt 19 (.take 20 (.take 21 (.take 22 (.take 23 (.take 24 (.take 25 (.take 26 (.take 27 (.take 28 (.take 29 (.take 30 (.take 31 (.take 32 (.take 33 (.take 34 (.alt 35 (.alt 36 (.take 37 (.take 38 (.take 39 (.take 41 (.take 43 (.take 44 (.alt 40 (.alt 42 (.alt 45 (.take 46 (.take 47 (.take 48 (.take 49 (.take 51 (.alt 50 (.take 52 (.take 53 (.take 54 (.alt 55 (.alt 56 (.alt 57 (.alt 58 (.take 59 (.take 60 (.done))) .no) .no) .no) .no)))) .no)))))) .no) .no) .no))))))) .no) .no)))))))))))))))) .no))))))))))))))))))))] := rfl
@[go_sem] theorem cx_law08_awake_ob (d : Nat) : (cx_law08_awake.ob).contains d = false := rfl
theorem cok_law08_awake : COk Try.prog (cx_law08_awake) := cok_of rfl (.cons ok_gfp_Deg (.cons ok_wide_Of (.cons ok_gfp_Same (.cons ok_gfp_X (.cons ok_xjump_Jump (.cons ok_xjump_Powers (.cons ok_xjump_At (.cons ok_xjump_Rule (.cons ok_xosh_Add (.cons ok_xosh_Step (.cons ok_xjump_Poly (.nil)))))))))))) (.cons (fun _ => fn1_quiet) (.cons (fun _ => fn1_quiet) (.cons (fun _ => fn2_quiet) (.cons (fun _ => fn1_quiet) (.cons (fun _ => fn2i_quiet) (.cons (fun _ => fn2j_quiet) (.cons (fun _ => fn2_quiet) (.cons (fun _ => fn0_quiet) (.cons (fun _ => fn2_quiet) (.cons (fun _ => fn1_quiet) (.cons (fun _ => fn1_quiet) (.nil)))))))))))) (.nil)
set_option maxHeartbeats 4000000 in
theorem ok_law08_awake : Ok Try.prog 39 c_law08_awake := by
  refine ok_fn0 cok_law08_awake mixed Try.func39 rfl (by kernel_rfl) (by kernel_rfl) rfl ?_
  intro om
  have d0 : tW.dec (.agg [.n .u64 0, .n .u64 0]) = some 0 := tW_pair (by omega)
  have d1 : tW.dec (.agg [.n .u64 0, .n .u64 1]) = some 1 := tW_pair (by omega)
  have d2 : tW.dec (.agg [.n .u64 0, .n .u64 200]) = some 200 := tW_pair (by omega)
  have n1 : ((X4.mk 1 2 3 4) = x0) = False := eq_false (by decide)
  have n0 : ((X4.mk 0 0 0 0) = x0) = True := eq_true rfl
  have s0 : xst ⟨1, 2, 3, 4⟩ 0 = ⟨1, 2, 3, 4⟩ := rfl
  have s1 : xst ⟨1, 2, 3, 4⟩ 1 = ⟨7, 0, 262146, 211106232532992⟩ := by decide
  have s2 : xst ⟨1, 2, 3, 4⟩ 2 = xstep ⟨7, 0, 262146, 211106232532992⟩ := by decide
  have p3 : pv [3] = 3 := pv_one 3
  have a3 : xat 3 ⟨1, 2, 3, 4⟩ 2 = xadd ⟨1, 2, 3, 4⟩ ⟨7, 0, 262146, 211106232532992⟩ := by decide
  have b3 : bl 3 = 2 := by decide
  have hX : upP 1 200 = pwr 2 RP 200 := by
    rw [pwr_cpw 2 RP_ne, cpw_two, rm_small (by rw [bl_RP]; decide)]; decide
  simp (maxSteps := 10000000) only [go_sem, Try.f39, Nat.reduceEqDiff, Nat.reduceBEq, Int.reduceToNat, Nat.reducePow, Nat.reduceMod, Nat.reduceAdd, Nat.reduceSub, Nat.reduceMul, Nat.reduceDiv, Nat.reduceLeDiff, Int.reduceAdd, Int.reduceSub, Int.reduceMul, Int.reduceDiv, Int.reduceMod, Int.reduceLE, Int.reduceLT, Int.reduceNeg, Int.reduceEq, Int.cast_ofNat_Int, Int.natCast_zero, List.contains_cons, List.contains_nil, Bool.or_false, Bool.or_true, Bool.true_or, reduceCtorEq, or_false, or_true, false_or, true_or, and_false, false_and, ne_eq, List.take_zero, List.take_succ_cons, List.take_nil, List.drop_zero, List.drop_succ_cons, List.drop_nil, decide_true, decide_false, c_gfp_Deg, c_wide_Of, c_gfp_Same, c_gfp_X, c_xjump_Jump, c_xjump_Powers, c_xjump_At, c_xjump_Rule, c_xosh_Add, c_xosh_Step, c_xjump_Poly, Nat.reduceLT, Nat.zero_lt_one, Nat.zero_add, Int.toNat_natCast, Nat.zero_le, Nat.le_refl, d0, d1, d2, n1, n0, s0, s1, s2, p3, a3, b3, hX, bl_RP, pv_nil, bl_zero, xat]
  have c := pwr_lt 2 RP_ne 200
  rw [bl_RP] at c
  repeat' (first | with_reducible refine And.intro ?_ ?_ | with_reducible intro _)
  all_goals first | omega | (rename_i h; exact (h ⟨rfl, rfl, rfl, rfl⟩).elim)
end Go.Proofs.Ytaojebdjkpdcdaa.I
