/- The statements of layer 3: awake. -/
import Derived.Test.YtbngamllllbfpaaRef3
import Derived.Test.YtbngamllllbfpaaLaw02
namespace Go.Proofs.Ytbngamllllbfpaa.I
open Go
set_option maxRecDepth 10000
set_option linter.unusedSimpArgs false
set_option linter.unusedVariables false

theorem pv_two (x y : Nat) : pv [x, y] = x + 18446744073709551616 * y := by simp [pv]

def c_law03_awake : Cn := fn0 (.b true)
noncomputable def cx_law03_awake : Cx := { T := T, cs := [(20, c_ref02_Words), (35, c_gfdiv_Div), (36, c_gfdiv_Mod), (37, c_gfdiv_Inverse), (39, c_gfdiv_Gcd), (42, c_gfdiv_MulMod)], sch := [], ob := [], qs := [20, 35, 36, 37, 39, 42] }
@[go_sem] theorem cx_law03_awake_md : cx_law03_awake.md = 0 := rfl
@[go_sem] theorem cx_law03_awake_T : cx_law03_awake.T = T := rfl
@[go_sem] theorem cx_law03_awake_cs : cx_law03_awake.cs = [(20, c_ref02_Words), (35, c_gfdiv_Div), (36, c_gfdiv_Mod), (37, c_gfdiv_Inverse), (39, c_gfdiv_Gcd), (42, c_gfdiv_MulMod)] := rfl
@[go_sem] theorem cx_law03_awake_ob (d : Nat) : (cx_law03_awake.ob).contains d = false := rfl
theorem cok_law03_awake : COk Try.prog (cx_law03_awake) := cok_of rfl (.cons ok_ref02_Words (.cons ok_gfdiv_Div (.cons ok_gfdiv_Mod (.cons ok_gfdiv_Inverse (.cons ok_gfdiv_Gcd (.cons ok_gfdiv_MulMod (.nil))))))) (.cons (fun _ => fn2_quiet) (.cons (fun _ => fn2i_quiet) (.cons (fun _ => fn2i_quiet) (.cons (fun _ => fn2j_quiet) (.cons (fun _ => fn2_quiet) (.cons (fun _ => fn3i_quiet) (.nil))))))) (.nil)
set_option maxHeartbeats 4000000 in
theorem ok_law03_awake : Ok Try.prog 34 c_law03_awake := by
  refine ok_fn0 cok_law03_awake mixed Try.func34 rfl (by kernel_rfl) (by kernel_rfl) rfl ?_
  intro om
  have g1 : gd 2 7 = 1 := by decide +kernel
  have g2 : ¬ gd 3 5 = 1 := by decide +kernel
  have f1 : wd (qd 11 3) = [6] := by rw [wd_wds]; decide +kernel
  have f2 : wd (rm 11 3) = [1] := by rw [wd_wds]; decide +kernel
  have f3 : wd (rm (cm 2 2) 7) = [3] := by rw [wd_wds]; decide +kernel
  have f4 : wd (iv 2 7) = [3] := by rw [wd_wds]; decide +kernel
  have f5 : rm 18446744073709551616 2 = 0 := by decide +kernel
  have f6 : wd (gd 5 3) = [3] := by rw [wd_wds]; decide +kernel
  have f7 : gd 0 0 = 0 := by decide +kernel
  simp (maxSteps := 1000000) only [go_sem, Try.f34, Nat.reduceEqDiff, Nat.reduceBEq, Int.reduceToNat, Nat.reducePow, Nat.reduceMod, Nat.reduceAdd, Nat.reduceSub, Nat.reduceMul, Nat.reduceDiv, Nat.reduceLeDiff, Int.reduceAdd, Int.reduceSub, Int.reduceMul, Int.reduceDiv, Int.reduceMod, Int.reduceLE, Int.reduceLT, Int.reduceNeg, Int.reduceEq, Int.cast_ofNat_Int, Int.natCast_zero, List.contains_cons, List.contains_nil, Bool.or_false, Bool.or_true, Bool.true_or, reduceCtorEq, or_false, or_true, false_or, true_or, and_false, false_and, ne_eq, List.take_zero, List.take_succ_cons, List.take_nil, List.drop_zero, List.drop_succ_cons, List.drop_nil, decide_true, decide_false, c_ref02_Words, c_gfdiv_Div, c_gfdiv_Mod, c_gfdiv_Inverse, c_gfdiv_Gcd, c_gfdiv_MulMod, g1, g2, f1, f2, f3, f4, f5, f6, f7, pv_two, bl_zero, Nat.zero_add, Nat.mul_one]
  repeat' (first | with_reducible refine And.intro ?_ ?_ | with_reducible intro _)
  all_goals decide +kernel
end Go.Proofs.Ytbngamllllbfpaa.I
