/- Chapter 14: awake. -/
import Derived.Test.YtggpbjhmpipplaaGreatSeed2
import Derived.Test.YtggpbjhmpipplaaGreatGenM
namespace Go.Proofs.YtggpbjhmpipplaaGreat.I
open Go
open Nat renaming reduceEqDiff → kn1, reduceBEq → kn2, reducePow → kn3, reduceMod → kn4, reduceAdd → kn5, reduceSub → kn6, reduceMul → kn7, reduceDiv → kn8, reduceLeDiff → kn9, reduceLT → kn0, zero_lt_one → kq1, zero_add → kq2, zero_le → kq3, le_refl → kq4
open Int renaming reduceToNat → kz1, reduceAdd → kz2, reduceSub → kz3, reduceMul → kz4, reduceDiv → kz5, reduceMod → kz6, reduceLE → kz7, reduceLT → kz8, reduceNeg → kz9, reduceEq → kz0
set_option maxRecDepth 10000
set_option linter.unusedSimpArgs false
set_option linter.unusedVariables false

theorem e14_s7 : snew 1 7 = ⟨1, 7, ⟨0, 0, 0, 0⟩, ⟨0, 0⟩, ⟨0, ⟨0, 0⟩, false⟩⟩ := by decide +kernel
theorem e14_s0 : snew 4 0 = ⟨4, 0, ⟨0, 0, 0, 0⟩, ⟨0, 0⟩, ⟨0, ⟨2065550767, 3793791033⟩, false⟩⟩ := by decide +kernel
theorem e14_w : swords (gjump (snew 1 0) 0) 2 = [16294208416658607535, 7960286522194355700] := by decide +kernel
theorem e14_e2 : ssome 1 0 2 = 0 := by decide +kernel
theorem e14_e7 : ssome 1 0 257 = 1 := by decide +kernel
theorem e14_c2 : gjump (snew 1 0) 2 = ⟨1, 4354685564936845354, ⟨0, 0, 0, 0⟩, ⟨0, 0⟩, ⟨0, ⟨0, 0⟩, false⟩⟩ := by decide +kernel
theorem e14_c3 : gjump (snew 1 0) 3 = ⟨1, 15755400384260043839, ⟨0, 0, 0, 0⟩, ⟨0, 0⟩, ⟨0, ⟨0, 0⟩, false⟩⟩ := by decide +kernel
theorem e14_l1 : glim 1 = 9223372036854775808 := by decide +kernel
theorem e14_l0 : glim 0 = 0 := by decide +kernel
@[go_sem] def c_law14_awake : Cn := fn0 (.b true)
noncomputable def cx_law14_awake : Cx := { T := T, E := E, cs := [(13, c_seed_New), (15, c_seed_At), (16, c_wide_Of), (17, c_seed_Some), (20, c_seed_Is), (21, c_ref02_Words)], sch := [(9, false, .take 0 (.take 1 (.take 2 (.take 3 (.take 4 (.take 5 (.take 6 (.take 7 (.take 8 (.take 9 (.take 10 (.take 11 (.take 12 (.take 13 (.take 14 (.take 15 (.take 16 (.take 17 (.take 18 (.take 19 (.take 20 (.take 21 (.take 22 (.take 23 (.take 24 (.take 25 (.take 26 (.take 27 (.alt 28 (.alt 29 (.take 30 (.take 31 (.take 32 (.take 33 (.take 34 (.take 35 (.take 36 (.take 37 (.take 38 (.take 39 (.take 40 (.take 41 (.take 42 (.take 43 (.take 44 (.take 45 (.take 46 (.take 47 (.take 48 (.take 49 (.alt 50 (.alt 51 (.take 52 (.take 53 (.take 54 (.alt 55 (.alt 56 (.take 57 (.take 58 (.take 59 (.take 60 (.take 61 (.alt 62 (.take 63 (.take 64 (.take 65 (.done)))) .no)))))) .no) .no)))) .no) .no))))))))))))))))))))) .no) .no)))))))))))))))))))))))))))))], ob := [], qs := [13, 15, 16, 17, 20, 21] }
@[go_sem] theorem cx_law14_awake_e : cx_law14_awake.gs = none ∧ cx_law14_awake.md = 0 ∧ cx_law14_awake.T = T ∧ cx_law14_awake.E = E ∧ cx_law14_awake.cs = [(13, c_seed_New), (15, c_seed_At), (16, c_wide_Of), (17, c_seed_Some), (20, c_seed_Is), (21, c_ref02_Words)] ∧ cx_law14_awake.sch = [(9, false, .take 0 (.take 1 (.take 2 (.take 3 (.take 4 (.take 5 (.take 6 (.take 7 (.take 8 (.take 9 (.take 10 (.take 11 (.take 12 (.take 13 (.take 14 (.take 15 (.take 16 (.take 17 (.take 18 (.take 19 (.take 20 (.take 21 (.take 22 (.take 23 (.take 24 (.take 25 (.take 26 (.take 27 (.alt 28 (.alt 29 (.take 30 (.take 31 (.take 32 (.take 33 (.take 34 (.take 35 (.take 36 (.take 37 (.take 38 (.take 39 (.take 40 (.take 41 (.take 42 (.take 43 (.take 44 (.take 45 (.take 46 (.take 47 (.take 48 (.take 49 (.alt 50 (.alt 51 (.take 52 (.take 53 (.take 54 (.alt 55 (.alt 56 (.take 57 (.take 58 (.take 59 (.take 60 (.take 61 (.alt 62 (.take 63 (.take 64 (.take 65 (.done)))) .no)))))) .no) .no)))) .no) .no))))))))))))))))))))) .no) .no)))))))))))))))))))))))))))))] ∧ ∀ d, (cx_law14_awake.ob).contains d = false := ⟨rfl, rfl, rfl, rfl, rfl, rfl, fun _ => rfl⟩
theorem cok_law14_awake : COk Tryz.prog (cx_law14_awake) := cok_of rfl (.cons ok_seed_New (.cons ok_seed_At (.cons ok_wide_Of (.cons ok_seed_Some (.cons ok_seed_Is (.cons ok_ref02_Words (.nil))))))) (.cons (fun _ => fn2i_quiet) (.cons (fun _ => fn3j_quiet) (.cons (fun _ => fn1_quiet) (.cons (fun _ => fn4i_quiet) (.cons (fun _ => fn4_quiet) (.cons (fun _ => fn2_quiet) (.nil))))))) (.nil)
set_option maxHeartbeats 4000000 in
theorem ok_law14_awake : Ok Tryz.prog 12 c_law14_awake := by
  refine ok_fn0 cok_law14_awake mixed Tryz.func12 rfl (by kernel_rfl) (by kernel_rfl) rfl ?_
  intro om
  have d0' : tW.dec (.agg [.n .u64 0, .n .u64 0]) = some 0 := tW_lit (by omega)
  have d2 : tW.dec (.agg [.n .u64 0, .n .u64 2]) = some 2 := tW_lit (by omega)
  have d3 : tW.dec (.agg [.n .u64 0, .n .u64 3]) = some 3 := tW_lit (by omega)
  have d63 : tW.dec (.agg [.n .u64 0, .n .u64 9223372036854775808]) = some 9223372036854775808 := tW_lit (by omega)
  have d127 : tW.dec (.agg [.n .u64 9223372036854775808, .n .u64 0]) = some 170141183460469231731687303715884105728 := by
    exact tW_pair (h := 9223372036854775808) (l := 0) (by omega)
  simp (maxSteps := 10000000) only [go_sem, Tryz.f12, kn1, kn2, kn3, kn4, kn5, kn6, kn7, kn8, kn9, kz1, kz2, kz3, kz4, kz5, kz6, kz7, kz8, kz9, kz0, reduceCtorEq, String.reduceEq, kn0, kq1, kq2, kq3, kq4, Int.toNat_natCast, d0', d2, d3, d63, d127, tG_1, tG_4, e14_s7, e14_s0, e14_w, e14_e2, e14_e7, e14_c2, e14_c3, e14_l1, e14_l0, gz, x0, d0, h0, k0, GS.mk.injEq]
end Go.Proofs.YtggpbjhmpipplaaGreat.I
