/- awake of layer 5; what bits are. -/
import Derived.Test.YtbngamllllbfpaaRef5
import Derived.Test.YtbngamllllbfpaaLaw03
namespace Go.Proofs.Ytbngamllllbfpaa.I
open Go
set_option maxRecDepth 10000
set_option linter.unusedSimpArgs false
set_option linter.unusedVariables false

def c_law05_awake : Cn := fn0 (.b true)
noncomputable def cx_law05_awake : Cx := { T := T, cs := [(20, c_ref02_Words), (44, c_massey_Goes), (45, c_ref05_Same), (47, c_massey_Rule), (50, c_massey_Least), (51, c_massey_Length)], sch := [], ob := [], qs := [20, 44, 45, 47, 50, 51] }
@[go_sem] theorem cx_law05_awake_md : cx_law05_awake.md = 0 := rfl
@[go_sem] theorem cx_law05_awake_T : cx_law05_awake.T = T := rfl
@[go_sem] theorem cx_law05_awake_cs : cx_law05_awake.cs = [(20, c_ref02_Words), (44, c_massey_Goes), (45, c_ref05_Same), (47, c_massey_Rule), (50, c_massey_Least), (51, c_massey_Length)] := rfl
@[go_sem] theorem cx_law05_awake_ob (d : Nat) : (cx_law05_awake.ob).contains d = false := rfl
theorem cok_law05_awake : COk Try.prog (cx_law05_awake) := cok_of rfl (.cons ok_ref02_Words (.cons ok_massey_Goes (.cons ok_ref05_Same (.cons ok_massey_Rule (.cons ok_massey_Least (.cons ok_massey_Length (.nil))))))) (.cons (fun _ => fn2_quiet) (.cons (fun _ => fn3j_quiet) (.cons (fun _ => fn2_quiet) (.cons (fun _ => fn2_quiet) (.cons (fun _ => fn1i_quiet) (.cons (fun _ => fn1_quiet) (.nil))))))) (.nil)
set_option maxHeartbeats 4000000 in
theorem ok_law05_awake : Ok Try.prog 43 c_law05_awake := by
  refine ok_fn0 cok_law05_awake mixed Try.func43 rfl (by kernel_rfl) (by kernel_rfl) rfl ?_
  intro om
  have e1 : lst [false, true, true, false, true, true] = 7 := by decide +kernel
  have e2 : lc [false, true, true, false, true, true] = 2 := by decide +kernel
  have e3 : lc [false, false, true] = 3 := by decide +kernel
  have e4 : lc [false] = 0 := by decide +kernel
  have e5 : lst [false] = 1 := by decide +kernel
  have e6 : go 7 [true, true] 2 = [true, true, false, true] := by decide +kernel
  have e7 : lc [] = 0 := by decide +kernel
  have e8 : Ru [false, true, true, false, true, true] 7 := by decide +kernel
  have e9 : ¬ Ru [false, true, true, false, true, true] 3 := by decide +kernel
  have e10 : ¬ Ru [false, true, true, false, true, true] 0 := by decide +kernel
  have b1 : bl 1 = 1 := rfl
  have b4 : bl 4 = 3 := rfl
  have b7 : bl 7 = 3 := rfl
  have w1 : wd 1 = [1] := wd_lit1
  have w7 : wd 7 = [7] := wd_lit 7 (by omega) (by omega)
  simp (maxSteps := 10000000) only [go_sem, Try.f43, Nat.reduceEqDiff, Nat.reduceBEq, Int.reduceToNat, Nat.reducePow, Nat.reduceMod, Nat.reduceAdd, Nat.reduceSub, Nat.reduceMul, Nat.reduceDiv, Nat.reduceLeDiff, Int.reduceAdd, Int.reduceSub, Int.reduceMul, Int.reduceDiv, Int.reduceMod, Int.reduceLE, Int.reduceLT, Int.reduceNeg, Int.reduceEq, Int.cast_ofNat_Int, Int.natCast_zero, List.contains_cons, List.contains_nil, Bool.or_false, Bool.or_true, Bool.true_or, reduceCtorEq, or_false, or_true, false_or, true_or, and_false, false_and, ne_eq, List.take_zero, List.take_succ_cons, List.take_nil, List.drop_zero, List.drop_succ_cons, List.drop_nil, decide_true, decide_false, c_ref02_Words, c_massey_Goes, c_ref05_Same, c_massey_Rule, c_massey_Least, c_massey_Length, e1, e2, e3, e4, e5, e6, e7, e8, e9, e10, b1, b4, b7, w1, w7, Nat.reduceLT, go.eq_1, not_false_eq_true, not_true_eq_false]

theorem bl_lst (l : List Bool) : bl (lst l) = lc l + 1 := (lst_ru l).2

def c_law05_MasseyRule : Cn := fn2 tBs (tN .u16) (fun _ _ => True) fun _ _ => .b true
noncomputable def cx_law05_MasseyRule : Cx := { T := T, cs := [(24, c_gfp_Deg), (43, c_law05_awake), (47, c_massey_Rule), (50, c_massey_Least), (51, c_massey_Length)], sch := [], ob := [], qs := [24, 43, 47, 50, 51] }
@[go_sem] theorem cx_law05_MasseyRule_md : cx_law05_MasseyRule.md = 0 := rfl
@[go_sem] theorem cx_law05_MasseyRule_T : cx_law05_MasseyRule.T = T := rfl
@[go_sem] theorem cx_law05_MasseyRule_cs : cx_law05_MasseyRule.cs = [(24, c_gfp_Deg), (43, c_law05_awake), (47, c_massey_Rule), (50, c_massey_Least), (51, c_massey_Length)] := rfl
@[go_sem] theorem cx_law05_MasseyRule_ob (d : Nat) : (cx_law05_MasseyRule.ob).contains d = false := rfl
theorem cok_law05_MasseyRule : COk Try.prog (cx_law05_MasseyRule) := cok_of rfl (.cons ok_gfp_Deg (.cons ok_law05_awake (.cons ok_massey_Rule (.cons ok_massey_Least (.cons ok_massey_Length (.nil)))))) (.cons (fun _ => fn1_quiet) (.cons (fun _ => fn0_quiet) (.cons (fun _ => fn2_quiet) (.cons (fun _ => fn1i_quiet) (.cons (fun _ => fn1_quiet) (.nil)))))) (.nil)
set_option maxHeartbeats 4000000 in
theorem ok_law05_MasseyRule : Ok Try.prog 12 c_law05_MasseyRule := by
  refine ok_fn2 cok_law05_MasseyRule mixed Try.func12 rfl (by kernel_rfl) (by kernel_rfl) rfl ?_
  intro l cut om hw _
  have hl := wf_bs ⟨hw.1, trivial⟩
  rw [longest_eq] at hl
  have h1 := lc_le l
  have h2 := bl_lst l
  have h3 := (lst_ru l).1
  have h4 : ∀ k, lc (l.take k) ≤ lc l := fun k => by
    have := lc_least (h3.take k)
    rw [h2] at this; omega
  rcases Nat.lt_or_ge 300 l.length with g | g
  · have g' : (300 : Int) < l.length := by omega
    simp (maxSteps := 10000000) only [go_sem, Try.f12, Nat.reduceEqDiff, Nat.reduceBEq, Int.reduceToNat, Nat.reducePow, Nat.reduceMod, Nat.reduceAdd, Nat.reduceSub, Nat.reduceMul, Nat.reduceDiv, Nat.reduceLeDiff, Int.reduceAdd, Int.reduceSub, Int.reduceMul, Int.reduceDiv, Int.reduceMod, Int.reduceLE, Int.reduceLT, Int.reduceNeg, Int.reduceEq, Int.cast_ofNat_Int, Int.natCast_zero, List.contains_cons, List.contains_nil, Bool.or_false, Bool.or_true, Bool.true_or, reduceCtorEq, or_false, or_true, false_or, true_or, and_false, false_and, ne_eq, List.take_zero, List.take_succ_cons, List.take_nil, List.drop_zero, List.drop_succ_cons, List.drop_nil, decide_true, decide_false, c_gfp_Deg, c_law05_awake, c_massey_Rule, c_massey_Least, c_massey_Length, g', if_true, Nat.reduceLT]
  · have g' : ¬ (300 : Int) < l.length := by omega
    have g2 : l.length ≤ 2048 := by omega
    have g3 : l.length ≤ 1099511627776 := by omega
    have g4 : 0 ≤ (lc l : Int) := by omega
    have g5 : ¬ (lc l : Int) < 0 := by omega
    have g6 : ¬ (l.length : Int) < lc l := by omega
    rcases Decidable.em (2 * lc l ≤ l.length) with e | e
    · have eI : 2 * (lc l : Int) ≤ l.length := by omega
      have e2 : ((lc l + 1 : Nat) : Int) - 1 = lc l := by omega
      simp (maxSteps := 10000000) only [go_sem, Try.f12, Nat.reduceEqDiff, Nat.reduceBEq, Int.reduceToNat, Nat.reducePow, Nat.reduceMod, Nat.reduceAdd, Nat.reduceSub, Nat.reduceMul, Nat.reduceDiv, Nat.reduceLeDiff, Int.reduceAdd, Int.reduceSub, Int.reduceMul, Int.reduceDiv, Int.reduceMod, Int.reduceLE, Int.reduceLT, Int.reduceNeg, Int.reduceEq, Int.cast_ofNat_Int, Int.natCast_zero, List.contains_cons, List.contains_nil, Bool.or_false, Bool.or_true, Bool.true_or, reduceCtorEq, or_false, or_true, false_or, true_or, and_false, false_and, ne_eq, List.take_zero, List.take_succ_cons, List.take_nil, List.drop_zero, List.drop_succ_cons, List.drop_nil, decide_true, decide_false, c_gfp_Deg, c_law05_awake, c_massey_Rule, c_massey_Least, c_massey_Length, g', g2, g3, g4, g5, g6, e, eI, e2, h2, h3, Nat.reduceLT, bne_self_eq_false, bl_lst]
      have e3 := h4 ((cut : Int) % (l.length + 1)).toNat
      have e4 : (l.take ((cut : Int) % (l.length + 1)).toNat).length ≤ l.length := by simp; omega
      have e5 := Int.emod_lt_of_pos (cut : Int) (show (0 : Int) < l.length + 1 by omega)
      have e6 := Int.emod_nonneg (cut : Int) (show (l.length + 1 : Int) ≠ 0 by omega)
      have hc : cut < 65536 := hw.2.1
      have e7 : (l.take ((cut : Int) % (l.length + 1)).toNat).length ≤ 2048 := by omega
      simp only [e7, if_true]
      repeat' (first | with_reducible refine And.intro ?_ ?_ | with_reducible intro _)
      all_goals omega
    · have eI : ¬ 2 * (lc l : Int) ≤ l.length := by omega
      simp (maxSteps := 10000000) only [go_sem, Try.f12, Nat.reduceEqDiff, Nat.reduceBEq, Int.reduceToNat, Nat.reducePow, Nat.reduceMod, Nat.reduceAdd, Nat.reduceSub, Nat.reduceMul, Nat.reduceDiv, Nat.reduceLeDiff, Int.reduceAdd, Int.reduceSub, Int.reduceMul, Int.reduceDiv, Int.reduceMod, Int.reduceLE, Int.reduceLT, Int.reduceNeg, Int.reduceEq, Int.cast_ofNat_Int, Int.natCast_zero, List.contains_cons, List.contains_nil, Bool.or_false, Bool.or_true, Bool.true_or, reduceCtorEq, or_false, or_true, false_or, true_or, and_false, false_and, ne_eq, List.take_zero, List.take_succ_cons, List.take_nil, List.drop_zero, List.drop_succ_cons, List.drop_nil, decide_true, decide_false, c_gfp_Deg, c_law05_awake, c_massey_Rule, c_massey_Least, c_massey_Length, g', g2, g3, g4, g5, g6, e, eI, h2, h3, Nat.reduceLT, bne_self_eq_false]
      have e3 := h4 ((cut : Int) % (l.length + 1)).toNat
      have e4 : (l.take ((cut : Int) % (l.length + 1)).toNat).length ≤ l.length := by simp; omega
      have e5 := Int.emod_lt_of_pos (cut : Int) (show (0 : Int) < l.length + 1 by omega)
      have e6 := Int.emod_nonneg (cut : Int) (show (l.length + 1 : Int) ≠ 0 by omega)
      have hc : cut < 65536 := hw.2.1
      have e7 : (l.take ((cut : Int) % (l.length + 1)).toNat).length ≤ 2048 := by omega
      simp only [e7, if_true]
      repeat' (first | with_reducible refine And.intro ?_ ?_ | with_reducible intro _)
      all_goals omega
end Go.Proofs.Ytbngamllllbfpaa.I
