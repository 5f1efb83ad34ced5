/- XjumpRule, as a contract. -/
import Derived.Test.YtaojebdjkpdcdaaLaw08
namespace Go.Proofs.Ytaojebdjkpdcdaa.I
open Go
set_option maxRecDepth 10000
set_option linter.unusedSimpArgs false
set_option linter.unusedVariables false

noncomputable def c_law08_XjumpRule : Cn := fn2 tX tU (fun _ _ => True) fun _ _ => .b true
noncomputable def cx_law08_XjumpRule : Cx := { T := T, E := E, cs := [(17, c_gfpow_Squares), (26, c_gfp_Deg), (34, c_gfp_Same), (35, c_gfp_X), (36, c_gfdiv_Mod), (39, c_law08_awake), (42, c_xjump_At), (49, c_xjump_Rule), (50, c_gfdiv_Gcd), (51, c_gfp_Add)], sch := [(10, false, .take 0 (.take 1 (.take 2 (.take 3 (.take 4 (.take 5 (.take 6 (.take 7 (.take 8 (.take 9 (.take 10 (.take 11 (.take 12 (.take 14 (.alt 13 (.take 15 (.take 16 (.take 17 (.take 18 (.alt 19 (.alt 20 (.take 21 (.take 22 (.take 23 (.alt 24 (.take 25 (.take 26 (.take 27 (.take 28 (.take 29 (.take 31 (.take 32 (.alt 30 (.alt 33 (.take 34 (.take 35 (.take 36 (.done)))) .no) .no)))))))) .no)))) .no) .no))))) .no)))))))))))))))], ob := [], qs := [17, 26, 34, 35, 36, 39, 42, 49, 50, 51] }
@[go_sem] theorem cx_law08_XjumpRule_md : cx_law08_XjumpRule.md = 0 := rfl
@[go_sem] theorem cx_law08_XjumpRule_T : cx_law08_XjumpRule.T = T := rfl
@[go_sem] theorem cx_law08_XjumpRule_E : cx_law08_XjumpRule.E = E := rfl
@[go_sem] theorem cx_law08_XjumpRule_cs : cx_law08_XjumpRule.cs = [(17, c_gfpow_Squares), (26, c_gfp_Deg), (34, c_gfp_Same), (35, c_gfp_X), (36, c_gfdiv_Mod), (39, c_law08_awake), (42, c_xjump_At), (49, c_xjump_Rule), (50, c_gfdiv_Gcd), (51, c_gfp_Add)] := rfl
@[go_sem] theorem cx_law08_XjumpRule_sch : cx_law08_XjumpRule.sch = [(10, false, .take 0 (.take 1 (.take 2 (.take 3 (.take 4 (.take 5 (.take 6 (.take 7 (.take 8 (.take 9 (.take 10 (.take 11 (.take 12 (.take 14 (.alt 13 (.take 15 (.take 16 (.take 17 (.take 18 (.alt 19 (.alt 20 (.take 21 (.take 22 (.take 23 (.alt 24 (.take 25 (.take 26 (.take 27 (.take 28 (.take 29 (.take 31 (.take 32 (.alt 30 (.alt 33 (.take 34 (.take 35 (.take 36 (.done)))) .no) .no)))))))) .no)))) .no) .no))))) .no)))))))))))))))] := rfl
@[go_sem] theorem cx_law08_XjumpRule_ob (d : Nat) : (cx_law08_XjumpRule.ob).contains d = false := rfl
theorem cok_law08_XjumpRule : COk Try.prog (cx_law08_XjumpRule) := cok_of rfl (.cons ok_gfpow_Squares (.cons ok_gfp_Deg (.cons ok_gfp_Same (.cons ok_gfp_X (.cons ok_gfdiv_Mod (.cons ok_law08_awake (.cons ok_xjump_At (.cons ok_xjump_Rule (.cons ok_gfdiv_Gcd (.cons ok_gfp_Add (.nil))))))))))) (.cons (fun _ => fn3j_quiet) (.cons (fun _ => fn1_quiet) (.cons (fun _ => fn2_quiet) (.cons (fun _ => fn1_quiet) (.cons (fun _ => fn2i_quiet) (.cons (fun _ => fn0_quiet) (.cons (fun _ => fn2_quiet) (.cons (fun _ => fn0_quiet) (.cons (fun _ => fn2_quiet) (.cons (fun _ => fn2_quiet) (.nil))))))))))) (.nil)
set_option maxHeartbeats 4000000 in
theorem ok_law08_XjumpRule : Ok Try.prog 11 c_law08_XjumpRule := by
  refine ok_fn2 cok_law08_XjumpRule mixed Try.func11 rfl (by kernel_rfl) (by kernel_rfl) rfl ?_
  intro s p om hw _
  have hs : s.wf := wf_x hw
  have h1 := bl_pv (wf_u ⟨hw.2.1, trivial⟩).2
  obtain ⟨P, hP⟩ : ∃ P, pv p = P := ⟨_, rfl⟩
  rw [hP] at h1
  have hR : (RP = 0) = False := eq_false RP_ne
  have hu : upP 1 1 = 2 := by decide
  have hb2 : bl 2 = 2 := by decide
  have hp := sqn_lt 2 RP_ne 128
  rw [bl_RP] at hp
  have hb1 : bl 1 = 1 := by decide
  have hx := bl_xor_le (sqn 2 RP 128) 2
  rw [hb2] at hx
  have x0z : (x0.a = 0 ∧ x0.b = 0 ∧ x0.c = 0 ∧ x0.d = 0) = True := eq_true ⟨rfl, rfl, rfl, rfl⟩
  have hr := rm_lt P RP_ne
  rw [bl_RP] at hr
  have a1 : xat P s (bl P) = act P s := rfl
  have a2 : xat (rm P RP) s (bl (rm P RP)) = act P s := act_rm P hs
  have a3 : xat RP s 257 = x0 := by rw [act_of (by rw [bl_RP]; omega), act_RP hs]
  rcases Decidable.em (12 < p.length) with hl | hl
  · have hl' : (12 : Int) < p.length := by omega
    simp (maxSteps := 10000000) only [go_sem, Try.f11, Nat.reduceEqDiff, Nat.reduceBEq, Int.reduceToNat, Nat.reducePow, Nat.reduceMod, Nat.reduceAdd, Nat.reduceSub, Nat.reduceMul, Nat.reduceDiv, Nat.reduceLeDiff, Int.reduceAdd, Int.reduceSub, Int.reduceMul, Int.reduceDiv, Int.reduceMod, Int.reduceLE, Int.reduceLT, Int.reduceNeg, Int.reduceEq, Int.cast_ofNat_Int, Int.natCast_zero, List.contains_cons, List.contains_nil, Bool.or_false, Bool.or_true, Bool.true_or, reduceCtorEq, or_false, or_true, false_or, true_or, and_false, false_and, ne_eq, List.take_zero, List.take_succ_cons, List.take_nil, List.drop_zero, List.drop_succ_cons, List.drop_nil, decide_true, decide_false, c_gfpow_Squares, c_gfp_Deg, c_gfp_Same, c_gfp_X, c_gfdiv_Mod, c_law08_awake, c_xjump_At, c_xjump_Rule, c_gfdiv_Gcd, c_gfp_Add, Nat.reduceLT, Nat.zero_lt_one, Nat.zero_add, Int.toNat_natCast, Nat.zero_le, Nat.le_refl, hl']
  have hl' : ¬ (12 : Int) < p.length := by omega
  simp (maxSteps := 10000000) only [go_sem, Try.f11, Nat.reduceEqDiff, Nat.reduceBEq, Int.reduceToNat, Nat.reducePow, Nat.reduceMod, Nat.reduceAdd, Nat.reduceSub, Nat.reduceMul, Nat.reduceDiv, Nat.reduceLeDiff, Int.reduceAdd, Int.reduceSub, Int.reduceMul, Int.reduceDiv, Int.reduceMod, Int.reduceLE, Int.reduceLT, Int.reduceNeg, Int.reduceEq, Int.cast_ofNat_Int, Int.natCast_zero, List.contains_cons, List.contains_nil, Bool.or_false, Bool.or_true, Bool.true_or, reduceCtorEq, or_false, or_true, false_or, true_or, and_false, false_and, ne_eq, List.take_zero, List.take_succ_cons, List.take_nil, List.drop_zero, List.drop_succ_cons, List.drop_nil, decide_true, decide_false, c_gfpow_Squares, c_gfp_Deg, c_gfp_Same, c_gfp_X, c_gfdiv_Mod, c_law08_awake, c_xjump_At, c_xjump_Rule, c_gfdiv_Gcd, c_gfp_Add, Nat.reduceLT, Nat.zero_lt_one, Nat.zero_add, Int.toNat_natCast, Nat.zero_le, Nat.le_refl, hl', hP, hR, hu, hb2, bl_RP, RP_far, RP_part, a1, a2, a3, hb1, x0z]
  clear hw a1 a2 a3
  repeat' (first | with_reducible refine And.intro ?_ ?_ | with_reducible intro _)
  all_goals first | omega | trivial | rfl
end Go.Proofs.Ytaojebdjkpdcdaa.I
