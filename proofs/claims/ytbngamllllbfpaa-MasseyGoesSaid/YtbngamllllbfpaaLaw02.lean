/- The statements of layer 2, as contracts. -/
import Derived.Test.YtbngamllllbfpaaRef2
namespace Go.Proofs.Ytbngamllllbfpaa.I
open Go
set_option maxRecDepth 10000
set_option linter.unusedSimpArgs false
set_option linter.unusedVariables false

abbrev tPs : Ty (List (List Nat)) := tL tU
@[go_sem] theorem tLu_enc (xs : List (List Nat)) : (tL (tL (tN .u64))).enc xs = .sl (els (tL (tN .u64)).enc xs) := rfl

def c_law02_Large : Cn := fn1 tPs (fun _ => True) fun l => .b (l.any fun xs => decide (16 < xs.length))
noncomputable def cx_law02_Large : Cx := { T := T, cs := [], sch := [], ob := [], qs := [] }
@[go_sem] theorem cx_law02_Large_md : cx_law02_Large.md = 0 := rfl
@[go_sem] theorem cx_law02_Large_T : cx_law02_Large.T = T := rfl
@[go_sem] theorem cx_law02_Large_cs : cx_law02_Large.cs = [] := rfl
@[go_sem] theorem cx_law02_Large_ob (d : Nat) : (cx_law02_Large.ob).contains d = false := rfl
theorem cok_law02_Large : COk Try.prog (cx_law02_Large) := cok_of rfl (.nil) (.nil) (.nil)
theorem ok_law02_Large : Ok Try.prog 16 c_law02_Large := by
  refine ok_fn1 cok_law02_Large mixed Try.func16 rfl (by kernel_rfl) (by kernel_rfl) rfl ?_
  intro l om hw _
  have hl : l.length ≤ 9223372036854775807 := by have := hw.1.1; rwa [els_len] at this
  simp only [go_sem, Try.f16, Nat.reduceEqDiff, Nat.reduceBEq, Int.reduceToNat, Nat.reducePow, Nat.reduceMod, Nat.reduceAdd, Nat.reduceSub, Nat.reduceMul, Nat.reduceDiv, Nat.reduceLeDiff, Int.reduceAdd, Int.reduceSub, Int.reduceMul, Int.reduceDiv, Int.reduceMod, Int.reduceLE, Int.reduceLT, Int.reduceNeg, Int.reduceEq, Int.cast_ofNat_Int, Int.natCast_zero, List.contains_cons, List.contains_nil, Bool.or_false, Bool.or_true, Bool.true_or, reduceCtorEq, or_false, or_true, false_or, true_or, and_false, false_and, ne_eq, List.take_zero, List.take_succ_cons, List.take_nil, List.drop_zero, List.drop_succ_cons, List.drop_nil, decide_true, decide_false]
  refine ⟨Nat, fun k => ⟨[.u, .u, .u, .u, .u, .sl (els tU.enc l), .z l.length, .z k, .u, .u, .u, .u, .u, .u, .u], [], om⟩, fun k => k ≤ l.length ∧ (l.take k).any (fun xs => decide (16 < xs.length)) = false, fun k => l.length - k, ⟨0, ⟨by omega, rfl⟩, ?_⟩, ?_⟩
  · simp only [go_sem, Nat.reduceEqDiff, Nat.reduceBEq, Int.reduceToNat, Nat.reducePow, Nat.reduceMod, Nat.reduceAdd, Nat.reduceSub, Nat.reduceMul, Nat.reduceDiv, Nat.reduceLeDiff, Int.reduceAdd, Int.reduceSub, Int.reduceMul, Int.reduceDiv, Int.reduceMod, Int.reduceLE, Int.reduceLT, Int.reduceNeg, Int.reduceEq, Int.cast_ofNat_Int, Int.natCast_zero, List.contains_cons, List.contains_nil, Bool.or_false, Bool.or_true, Bool.true_or, reduceCtorEq, or_false, or_true, false_or, true_or, and_false, false_and, ne_eq, List.take_zero, List.take_succ_cons, List.take_nil, List.drop_zero, List.drop_succ_cons, List.drop_nil, decide_true, decide_false]
  · rintro k ⟨hk, ht⟩
    simp only [go_sem, Nat.reduceEqDiff, Nat.reduceBEq, Int.reduceToNat, Nat.reducePow, Nat.reduceMod, Nat.reduceAdd, Nat.reduceSub, Nat.reduceMul, Nat.reduceDiv, Nat.reduceLeDiff, Int.reduceAdd, Int.reduceSub, Int.reduceMul, Int.reduceDiv, Int.reduceMod, Int.reduceLE, Int.reduceLT, Int.reduceNeg, Int.reduceEq, Int.cast_ofNat_Int, Int.natCast_zero, List.contains_cons, List.contains_nil, Bool.or_false, Bool.or_true, Bool.true_or, reduceCtorEq, or_false, or_true, false_or, true_or, and_false, false_and, ne_eq, List.take_zero, List.take_succ_cons, List.take_nil, List.drop_zero, List.drop_succ_cons, List.drop_nil, decide_true, decide_false]
    refine ⟨fun h => ?_, fun h => ?_⟩
    · have hk' : k < l.length := by omega
      rw [els_getD' _ _ _ [] _ hk']
      simp only [go_sem, Nat.reduceEqDiff, Nat.reduceBEq, Int.reduceToNat, Nat.reducePow, Nat.reduceMod, Nat.reduceAdd, Nat.reduceSub, Nat.reduceMul, Nat.reduceDiv, Nat.reduceLeDiff, Int.reduceAdd, Int.reduceSub, Int.reduceMul, Int.reduceDiv, Int.reduceMod, Int.reduceLE, Int.reduceLT, Int.reduceNeg, Int.reduceEq, Int.cast_ofNat_Int, Int.natCast_zero, List.contains_cons, List.contains_nil, Bool.or_false, Bool.or_true, Bool.true_or, reduceCtorEq, or_false, or_true, false_or, true_or, and_false, false_and, ne_eq, List.take_zero, List.take_succ_cons, List.take_nil, List.drop_zero, List.drop_succ_cons, List.drop_nil, decide_true, decide_false]
      have e : l.getD k [] = l[k] := by simp [List.getD, hk']
      refine ⟨⟨by omega, by omega⟩, fun h1 => ?_, fun h1 => ⟨by omega, k + 1, ⟨by omega, ?_⟩, by omega, by omega⟩⟩
      · rw [eq_comm, List.any_eq_true]
        refine ⟨l[k], List.getElem_mem hk', ?_⟩
        rw [e] at h1
        simp; omega
      · rw [take_snoc_getD hk' [], List.any_append, ht]
        simp only [List.any_cons, List.any_nil, Bool.or_false, Bool.false_or, decide_eq_false_iff_not]; omega
    · rw [List.take_of_length_le (by omega)] at ht; exact ht.symm

def c_law02_awake : Cn := fn0 (.b true)
noncomputable def cx_law02_awake : Cx := { T := T, cs := [(19, c_gfp_Words), (20, c_ref02_Words), (21, c_gfp_Own), (24, c_gfp_Deg), (25, c_gfp_Bit), (27, c_gfp_X), (28, c_gfp_Add), (30, c_gfp_Up), (31, c_gfp_Mul), (32, c_gfp_Square), (33, c_gfp_Same)], sch := [], ob := [], qs := [19, 20, 21, 24, 25, 27, 28, 30, 31, 32, 33] }
@[go_sem] theorem cx_law02_awake_md : cx_law02_awake.md = 0 := rfl
@[go_sem] theorem cx_law02_awake_T : cx_law02_awake.T = T := rfl
@[go_sem] theorem cx_law02_awake_cs : cx_law02_awake.cs = [(19, c_gfp_Words), (20, c_ref02_Words), (21, c_gfp_Own), (24, c_gfp_Deg), (25, c_gfp_Bit), (27, c_gfp_X), (28, c_gfp_Add), (30, c_gfp_Up), (31, c_gfp_Mul), (32, c_gfp_Square), (33, c_gfp_Same)] := rfl
@[go_sem] theorem cx_law02_awake_ob (d : Nat) : (cx_law02_awake.ob).contains d = false := rfl
theorem cok_law02_awake : COk Try.prog (cx_law02_awake) := cok_of rfl (.cons ok_gfp_Words (.cons ok_ref02_Words (.cons ok_gfp_Own (.cons ok_gfp_Deg (.cons ok_gfp_Bit (.cons ok_gfp_X (.cons ok_gfp_Add (.cons ok_gfp_Up (.cons ok_gfp_Mul (.cons ok_gfp_Square (.cons ok_gfp_Same (.nil)))))))))))) (.cons (fun _ => fn2_quiet) (.cons (fun _ => fn2_quiet) (.cons (fun _ => fn1_quiet) (.cons (fun _ => fn1_quiet) (.cons (fun _ => fn2_quiet) (.cons (fun _ => fn1_quiet) (.cons (fun _ => fn2_quiet) (.cons (fun _ => fn2_quiet) (.cons (fun _ => fn2_quiet) (.cons (fun _ => fn1_quiet) (.cons (fun _ => fn2_quiet) (.nil)))))))))))) (.nil)
set_option maxHeartbeats 4000000 in
theorem ok_law02_awake : Ok Try.prog 15 c_law02_awake := by
  refine ok_fn0 cok_law02_awake mixed Try.func15 rfl (by kernel_rfl) (by kernel_rfl) rfl ?_
  intro om
  simp (maxSteps := 10000000) only [go_sem, Try.f15, Nat.reduceEqDiff, Nat.reduceBEq, Int.reduceToNat, Nat.reducePow, Nat.reduceMod, Nat.reduceAdd, Nat.reduceSub, Nat.reduceMul, Nat.reduceDiv, Nat.reduceLeDiff, Int.reduceAdd, Int.reduceSub, Int.reduceMul, Int.reduceDiv, Int.reduceMod, Int.reduceLE, Int.reduceLT, Int.reduceNeg, Int.reduceEq, Int.cast_ofNat_Int, Int.natCast_zero, List.contains_cons, List.contains_nil, Bool.or_false, Bool.or_true, Bool.true_or, reduceCtorEq, or_false, or_true, false_or, true_or, and_false, false_and, ne_eq, List.take_zero, List.take_succ_cons, List.take_nil, List.drop_zero, List.drop_succ_cons, List.drop_nil, decide_true, decide_false, c_gfp_Words, c_ref02_Words, c_gfp_Own, c_gfp_Deg, c_gfp_Bit, c_gfp_X, c_gfp_Add, c_gfp_Up, c_gfp_Mul, c_gfp_Square, c_gfp_Same]
  simp only [wd_wds, pv]
  repeat' (first | with_reducible refine And.intro ?_ ?_ | with_reducible intro _)
  all_goals first | decide +kernel | (rename_i h; exact absurd (by decide +kernel) h)
end Go.Proofs.Ytbngamllllbfpaa.I
