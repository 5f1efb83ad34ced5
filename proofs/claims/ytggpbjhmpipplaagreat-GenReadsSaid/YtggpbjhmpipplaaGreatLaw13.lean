/- Chapter 13: awake. -/
import Derived.Test.YtggpbjhmpipplaaGreatGen6
import Derived.Test.YtggpbjhmpipplaaGreatRef01a
import Derived.Test.YtggpbjhmpipplaaGreatGenM
namespace Go.Proofs.YtggpbjhmpipplaaGreat.I
open Go
open Nat renaming reduceEqDiff → kn1, reduceBEq → kn2, reducePow → kn3, reduceMod → kn4, reduceAdd → kn5, reduceSub → kn6, reduceMul → kn7, reduceDiv → kn8, reduceLeDiff → kn9, reduceLT → kn0, zero_lt_one → kq1, zero_add → kq2, zero_le → kq3, le_refl → kq4
open Int renaming reduceToNat → kz1, reduceAdd → kz2, reduceSub → kz3, reduceMul → kz4, reduceDiv → kz5, reduceMod → kz6, reduceLE → kz7, reduceLT → kz8, reduceNeg → kz9, reduceEq → kz0
set_option maxRecDepth 10000
set_option linter.unusedSimpArgs false
set_option linter.unusedVariables false

theorem ex_gokA : gok ⟨1, 258, ⟨0, 0, 0, 0⟩, ⟨0, 0⟩, ⟨0, ⟨0, 0⟩, false⟩⟩ = True := eq_true (by decide +kernel)
theorem ex_gokX : gok ⟨2, 0, ⟨1, 2, 3, 4⟩, ⟨0, 0⟩, ⟨0, ⟨0, 0⟩, false⟩⟩ = True := eq_true (by decide +kernel)
theorem ex_gokZ : gok ⟨2, 0, ⟨0, 0, 0, 0⟩, ⟨0, 0⟩, ⟨0, ⟨0, 0⟩, false⟩⟩ = False := eq_false (by decide +kernel)
theorem ex_chkZ : gchk ⟨2, 0, ⟨0, 0, 0, 0⟩, ⟨0, 0⟩, ⟨0, ⟨0, 0⟩, false⟩⟩ = 3 := by decide +kernel
theorem ex_chk0 : gchk ⟨0, 0, ⟨0, 0, 0, 0⟩, ⟨0, 0⟩, ⟨0, ⟨0, 0⟩, false⟩⟩ = 2 := by decide +kernel
theorem ex_chk4 : gchk ⟨4, 1, ⟨0, 0, 0, 0⟩, ⟨0, 0⟩, ⟨0, ⟨0, 0⟩, false⟩⟩ = 3 := by decide +kernel
theorem ex_putA : gbytes ⟨1, 258, ⟨0, 0, 0, 0⟩, ⟨0, 0⟩, ⟨0, ⟨0, 0⟩, false⟩⟩ = [1, 2, 1, 0, 0, 0, 0, 0, 0] := by decide +kernel
theorem ex_takeA : gtake [1, 2, 1, 0, 0, 0, 0, 0, 0, 7] = (⟨1, 258, ⟨0, 0, 0, 0⟩, ⟨0, 0⟩, ⟨0, ⟨0, 0⟩, false⟩⟩, 9, 0) := by decide +kernel
theorem ex_take0 (l : List Nat) : gtake (0 :: l) = (gz, 0, 2) := rfl
theorem ex_take5 : gtake [5] = (gz, 0, 2) := rfl
theorem ex_takeN : gtake [] = (gz, 0, 11) := rfl
theorem ex_st2 : gst ⟨2, 0, ⟨1, 2, 3, 4⟩, ⟨0, 0⟩, ⟨0, ⟨0, 0⟩, false⟩⟩ 2 = ⟨2, 0, ⟨211106232532999, 262149, 262149, 402653184⟩, ⟨0, 0⟩, ⟨0, ⟨0, 0⟩, false⟩⟩ := by decide +kernel
theorem ex_jump : gjump ⟨2, 0, ⟨1, 2, 3, 4⟩, ⟨0, 0⟩, ⟨0, ⟨0, 0⟩, false⟩⟩ 2 = ⟨2, 0, ⟨211106232532999, 262149, 262149, 402653184⟩, ⟨0, 0⟩, ⟨0, ⟨0, 0⟩, false⟩⟩ := by decide +kernel
theorem ex_words : (List.range 0 ++ [0] ++ [1]).map (fun i => gword (gst ⟨2, 0, ⟨1, 2, 3, 4⟩, ⟨0, 0⟩, ⟨0, ⟨0, 0⟩, false⟩⟩ i)) = [11520, 0] := by decide +kernel
theorem ex_word : gword ⟨2, 0, ⟨1, 2, 3, 4⟩, ⟨0, 0⟩, ⟨0, ⟨0, 0⟩, false⟩⟩ = 11520 := by decide +kernel
theorem ex_step : gstep ⟨0, 3, ⟨0, 0, 0, 0⟩, ⟨0, 0⟩, ⟨0, ⟨0, 0⟩, false⟩⟩ = ⟨0, 3, ⟨0, 0, 0, 0⟩, ⟨0, 0⟩, ⟨0, ⟨0, 0⟩, false⟩⟩ := by decide +kernel
theorem ex_lim1 : glim 1 = 9223372036854775808 := rfl
theorem ex_lim4 : glim 4 = 170141183460469231731687303715884105728 := rfl
theorem ex_lim0 : glim 0 = 0 := rfl
@[go_sem] def c_law13_awake : Cn := fn0 (.b true)
noncomputable def cx_law13_awake : Cx := { T := T, E := E, cs := [(16, c_wide_Of), (21, c_ref02_Words), (23, c_gen_Check), (25, c_gen_Limit), (26, c_gen_Jump), (30, c_gen_Put), (32, c_gen_Words), (33, c_gen_Word), (35, c_gen_Step), (37, c_ref01_Same), (38, c_gen_Take)], sch := [(9, false, .take 0 (.alt 1 (.alt 2 (.take 3 (.take 4 (.take 5 (.alt 6 (.alt 7 (.take 8 (.done)) .no) .no)))) (.alt 6 (.alt 2 (.take 3 (.take 4 (.take 5 (.alt 7 (.take 8 (.done)) .no)))) .no) (.no))) (.alt 6 (.alt 1 (.alt 2 (.take 3 (.take 4 (.take 5 (.alt 7 (.take 8 (.done)) .no)))) .no) .no) (.no))))], ob := [], qs := [16, 21, 23, 25, 26, 30, 32, 33, 35, 37, 38] }
@[go_sem] theorem cx_law13_awake_e : cx_law13_awake.gs = none ∧ cx_law13_awake.md = 0 ∧ cx_law13_awake.T = T ∧ cx_law13_awake.E = E ∧ cx_law13_awake.cs = [(16, c_wide_Of), (21, c_ref02_Words), (23, c_gen_Check), (25, c_gen_Limit), (26, c_gen_Jump), (30, c_gen_Put), (32, c_gen_Words), (33, c_gen_Word), (35, c_gen_Step), (37, c_ref01_Same), (38, c_gen_Take)] ∧ cx_law13_awake.sch = [(9, false, .take 0 (.alt 1 (.alt 2 (.take 3 (.take 4 (.take 5 (.alt 6 (.alt 7 (.take 8 (.done)) .no) .no)))) (.alt 6 (.alt 2 (.take 3 (.take 4 (.take 5 (.alt 7 (.take 8 (.done)) .no)))) .no) (.no))) (.alt 6 (.alt 1 (.alt 2 (.take 3 (.take 4 (.take 5 (.alt 7 (.take 8 (.done)) .no)))) .no) .no) (.no))))] ∧ ∀ d, (cx_law13_awake.ob).contains d = false := ⟨rfl, rfl, rfl, rfl, rfl, rfl, fun _ => rfl⟩
theorem cok_law13_awake : COk Tryz.prog (cx_law13_awake) := cok_of rfl (.cons ok_wide_Of (.cons ok_ref02_Words (.cons ok_gen_Check (.cons ok_gen_Limit (.cons ok_gen_Jump (.cons ok_gen_Put (.cons ok_gen_Words (.cons ok_gen_Word (.cons ok_gen_Step (.cons ok_ref01_Same (.cons ok_gen_Take (.nil)))))))))))) (.cons (fun _ => fn1_quiet) (.cons (fun _ => fn2_quiet) (.cons (fun _ => fn1_quiet) (.cons (fun _ => fn1_quiet) (.cons (fun _ => fn2i_quiet) (.cons (fun _ => fn1i_quiet) (.cons (fun _ => fn2j_quiet) (.cons (fun _ => fn1_quiet) (.cons (fun _ => fn1_quiet) (.cons (fun _ => fn2_quiet) (.cons (fun _ => fn1_quiet) (.nil)))))))))))) (.nil)
set_option maxHeartbeats 4000000 in
theorem ok_law13_awake : Ok Tryz.prog 28 c_law13_awake := by
  refine ok_fn0 cok_law13_awake mixed Tryz.func28 rfl (by kernel_rfl) (by kernel_rfl) rfl ?_
  intro om
  have d2 : tW.dec (.agg [.n .u64 0, .n .u64 2]) = some 2 := tW_lit (by omega)
  simp (maxSteps := 10000000) only [go_sem, Tryz.f28, kn1, kn2, kn3, kn4, kn5, kn6, kn7, kn8, kn9, kz1, kz2, kz3, kz4, kz5, kz6, kz7, kz8, kz9, kz0, reduceCtorEq, String.reduceEq, kn0, kq1, kq2, kq3, kq4, Int.toNat_natCast, tG_1, tG_2, d2, gz, x0, d0, h0, k0, ex_gokA, ex_gokX, ex_gokZ, ex_chkZ, ex_chk0, ex_chk4, ex_putA, ex_takeA, ex_take0, ex_take5, ex_takeN, ex_st2, ex_jump, ex_words, ex_word, ex_step, ex_lim1, ex_lim4, ex_lim0]
end Go.Proofs.YtggpbjhmpipplaaGreat.I
