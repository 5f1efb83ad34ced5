/- The statements of layer 4: large, awake. -/
import Derived.Test.YtaojebdjkpdcdaaRef4b
import Derived.Test.YtaojebdjkpdcdaaWide2
import Derived.Test.YtaojebdjkpdcdaaLaw02
namespace Go.Proofs.Ytaojebdjkpdcdaa.I
open Go
set_option maxRecDepth 10000
set_option linter.unusedSimpArgs false
set_option linter.unusedVariables false

def c_law04_large : Cn := fn1 tPs (fun _ => True) fun l => .b (l.any fun xs => decide (4 < xs.length))
noncomputable def cx_law04_large : Cx := { T := T, cs := [], sch := [], ob := [], qs := [] }
@[go_sem] theorem cx_law04_large_md : cx_law04_large.md = 0 := rfl
@[go_sem] theorem cx_law04_large_T : cx_law04_large.T = T := rfl
@[go_sem] theorem cx_law04_large_cs : cx_law04_large.cs = [] := rfl
@[go_sem] theorem cx_law04_large_ob (d : Nat) : (cx_law04_large.ob).contains d = false := rfl
theorem cok_law04_large : COk Try.prog (cx_law04_large) := cok_of rfl (.nil) (.nil) (.nil)
theorem ok_law04_large : Ok Try.prog 14 c_law04_large := by
  refine ok_fn1 cok_law04_large mixed Try.func14 rfl (by kernel_rfl) (by kernel_rfl) rfl ?_
  intro l om hw _
  have hl : l.length ≤ 9223372036854775807 := by have := hw.1.1; rwa [els_len] at this
  simp only [go_sem, Try.f14, Nat.reduceEqDiff, Nat.reduceBEq, Int.reduceToNat, Nat.reducePow, Nat.reduceMod, Nat.reduceAdd, Nat.reduceSub, Nat.reduceMul, Nat.reduceDiv, Nat.reduceLeDiff, Int.reduceAdd, Int.reduceSub, Int.reduceMul, Int.reduceDiv, Int.reduceMod, Int.reduceLE, Int.reduceLT, Int.reduceNeg, Int.reduceEq, Int.cast_ofNat_Int, Int.natCast_zero, List.contains_cons, List.contains_nil, Bool.or_false, Bool.or_true, Bool.true_or, reduceCtorEq, or_false, or_true, false_or, true_or, and_false, false_and, ne_eq, List.take_zero, List.take_succ_cons, List.take_nil, List.drop_zero, List.drop_succ_cons, List.drop_nil, decide_true, decide_false]
  refine ⟨Nat, fun k => ⟨[.u, .u, .u, .u, .u, .sl (els tU.enc l), .z l.length, .z k, .u, .u, .u, .u, .u, .u, .u], [], om⟩, fun k => k ≤ l.length ∧ (l.take k).any (fun xs => decide (4 < xs.length)) = false, fun k => l.length - k, ⟨0, ⟨by omega, rfl⟩, ?_⟩, ?_⟩
  · simp only [go_sem, Nat.reduceEqDiff, Nat.reduceBEq, Int.reduceToNat, Nat.reducePow, Nat.reduceMod, Nat.reduceAdd, Nat.reduceSub, Nat.reduceMul, Nat.reduceDiv, Nat.reduceLeDiff, Int.reduceAdd, Int.reduceSub, Int.reduceMul, Int.reduceDiv, Int.reduceMod, Int.reduceLE, Int.reduceLT, Int.reduceNeg, Int.reduceEq, Int.cast_ofNat_Int, Int.natCast_zero, List.contains_cons, List.contains_nil, Bool.or_false, Bool.or_true, Bool.true_or, reduceCtorEq, or_false, or_true, false_or, true_or, and_false, false_and, ne_eq, List.take_zero, List.take_succ_cons, List.take_nil, List.drop_zero, List.drop_succ_cons, List.drop_nil, decide_true, decide_false]
  · rintro k ⟨hk, ht⟩
    simp only [go_sem, Nat.reduceEqDiff, Nat.reduceBEq, Int.reduceToNat, Nat.reducePow, Nat.reduceMod, Nat.reduceAdd, Nat.reduceSub, Nat.reduceMul, Nat.reduceDiv, Nat.reduceLeDiff, Int.reduceAdd, Int.reduceSub, Int.reduceMul, Int.reduceDiv, Int.reduceMod, Int.reduceLE, Int.reduceLT, Int.reduceNeg, Int.reduceEq, Int.cast_ofNat_Int, Int.natCast_zero, List.contains_cons, List.contains_nil, Bool.or_false, Bool.or_true, Bool.true_or, reduceCtorEq, or_false, or_true, false_or, true_or, and_false, false_and, ne_eq, List.take_zero, List.take_succ_cons, List.take_nil, List.drop_zero, List.drop_succ_cons, List.drop_nil, decide_true, decide_false]
    refine ⟨fun h => ?_, fun h => ?_⟩
    · have hk' : k < l.length := by omega
      rw [els_getD' _ _ _ [] _ hk']
      simp only [go_sem, Nat.reduceEqDiff, Nat.reduceBEq, Int.reduceToNat, Nat.reducePow, Nat.reduceMod, Nat.reduceAdd, Nat.reduceSub, Nat.reduceMul, Nat.reduceDiv, Nat.reduceLeDiff, Int.reduceAdd, Int.reduceSub, Int.reduceMul, Int.reduceDiv, Int.reduceMod, Int.reduceLE, Int.reduceLT, Int.reduceNeg, Int.reduceEq, Int.cast_ofNat_Int, Int.natCast_zero, List.contains_cons, List.contains_nil, Bool.or_false, Bool.or_true, Bool.true_or, reduceCtorEq, or_false, or_true, false_or, true_or, and_false, false_and, ne_eq, List.take_zero, List.take_succ_cons, List.take_nil, List.drop_zero, List.drop_succ_cons, List.drop_nil, decide_true, decide_false]
      have e : l.getD k [] = l[k] := by simp [List.getD, hk']
      refine ⟨⟨by omega, by omega⟩, fun h1 => ?_, fun h1 => ⟨by omega, k + 1, ⟨by omega, ?_⟩, by omega, by omega⟩⟩
      · rw [eq_comm, List.any_eq_true]
        refine ⟨l[k], List.getElem_mem hk', ?_⟩
        rw [e] at h1
        simp; omega
      · rw [take_snoc_getD hk' [], List.any_append, ht]
        simp only [List.any_cons, List.any_nil, Bool.or_false, Bool.false_or, decide_eq_false_iff_not]; omega
    · rw [List.take_of_length_le (by omega)] at ht; exact ht.symm


def c_law04_awake : Cn := fn0 (.b true)
noncomputable def cx_law04_awake : Cx := { T := T, cs := [(15, c_gfpow_Pow), (16, c_gfpow_X), (17, c_gfpow_Squares), (19, c_ref02_Words), (22, c_gfpow_Rounds), (27, c_wide_Of), (30, c_gfpow_Irreducible), (35, c_gfp_X)], sch := [], ob := [], qs := [15, 16, 17, 19, 22, 27, 30, 35] }
@[go_sem] theorem cx_law04_awake_md : cx_law04_awake.md = 0 := rfl
@[go_sem] theorem cx_law04_awake_T : cx_law04_awake.T = T := rfl
@[go_sem] theorem cx_law04_awake_cs : cx_law04_awake.cs = [(15, c_gfpow_Pow), (16, c_gfpow_X), (17, c_gfpow_Squares), (19, c_ref02_Words), (22, c_gfpow_Rounds), (27, c_wide_Of), (30, c_gfpow_Irreducible), (35, c_gfp_X)] := rfl
@[go_sem] theorem cx_law04_awake_ob (d : Nat) : (cx_law04_awake.ob).contains d = false := rfl
theorem cok_law04_awake : COk Try.prog (cx_law04_awake) := cok_of rfl (.cons ok_gfpow_Pow (.cons ok_gfpow_X (.cons ok_gfpow_Squares (.cons ok_ref02_Words (.cons ok_gfpow_Rounds (.cons ok_wide_Of (.cons ok_gfpow_Irreducible (.cons ok_gfp_X (.nil))))))))) (.cons (fun _ => fn3i_quiet) (.cons (fun _ => fn2i_quiet) (.cons (fun _ => fn3j_quiet) (.cons (fun _ => fn2_quiet) (.cons (fun _ => fn1_quiet) (.cons (fun _ => fn1_quiet) (.cons (fun _ => fn1_quiet) (.cons (fun _ => fn1_quiet) (.nil))))))))) (.nil)
set_option maxHeartbeats 4000000 in
theorem ok_law04_awake : Ok Try.prog 13 c_law04_awake := by
  refine ok_fn0 cok_law04_awake mixed Try.func13 rfl (by kernel_rfl) (by kernel_rfl) rfl ?_
  intro om
  have f1 : wd (pwr 2 7 2) = [3] := by rw [wd_wds]; decide +kernel
  have f2 : wd (pwr 2 7 3) = [1] := by rw [wd_wds]; decide +kernel
  have f3 : wd (pwr 3 7 0) = [1] := by rw [wd_wds]; decide +kernel
  have f4 : wd (sqn 2 7 2) = [2] := by rw [wd_wds]; decide +kernel
  have i1 : ben 7 = true := by decide +kernel
  have i2 : ben 11 = true := by decide +kernel
  have i3 : ben 5 = false := by decide +kernel
  have i4 : ben 1 = false := by decide +kernel
  have i5 : bl 18446744073709551616 = 65 := by decide +kernel
  have e1 : upP 1 1 = 2 := rfl
  have f5 : wd 2 = [2] := by rw [wd_wds]; decide +kernel
  have b2 : bl 2 = 2 := rfl
  simp (maxSteps := 10000000) only [go_sem, Try.f13, Nat.reduceEqDiff, Nat.reduceBEq, Int.reduceToNat, Nat.reducePow, Nat.reduceMod, Nat.reduceAdd, Nat.reduceSub, Nat.reduceMul, Nat.reduceDiv, Nat.reduceLeDiff, Int.reduceAdd, Int.reduceSub, Int.reduceMul, Int.reduceDiv, Int.reduceMod, Int.reduceLE, Int.reduceLT, Int.reduceNeg, Int.reduceEq, Int.cast_ofNat_Int, Int.natCast_zero, List.contains_cons, List.contains_nil, Bool.or_false, Bool.or_true, Bool.true_or, reduceCtorEq, or_false, or_true, false_or, true_or, and_false, false_and, ne_eq, List.take_zero, List.take_succ_cons, List.take_nil, List.drop_zero, List.drop_succ_cons, List.drop_nil, decide_true, decide_false, c_gfpow_Pow, c_gfpow_X, c_gfpow_Squares, c_ref02_Words, c_gfpow_Rounds, c_wide_Of, c_gfpow_Irreducible, c_gfp_X, f1, f2, f3, f4, f5, i1, i2, i3, i4, i5, e1, b2, pv, bl_zero, Nat.zero_add, Nat.mul_one, Nat.mul_zero, Nat.add_zero, Nat.zero_mul, Nat.one_mul, tW_pair, Nat.reduceLT]
  repeat' (first | with_reducible refine And.intro ?_ ?_ | with_reducible intro _)
  all_goals first | omega | trivial | decide +kernel
end Go.Proofs.Ytaojebdjkpdcdaa.I
