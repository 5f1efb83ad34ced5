/- GfpowTells, GfpowPlain, GfpowAdds, as contracts. -/
import Derived.Test.YtaojebdjkpdcdaaLaw04
namespace Go.Proofs.Ytaojebdjkpdcdaa.I
open Go
set_option maxRecDepth 10000
set_option linter.unusedSimpArgs false
set_option linter.unusedVariables false

def c_law04_GfpowPlain : Cn := fn3 tU tU (tN .u8) (fun _ p _ => p.length ≤ 17592186044416) fun _ _ _ => .b true
noncomputable def cx_law04_GfpowPlain : Cx := { T := T, cs := [(13, c_law04_awake), (15, c_gfpow_Pow), (18, c_ref02_Parts), (19, c_ref02_Words), (20, c_ref02_Of), (26, c_gfp_Deg), (27, c_wide_Of), (28, c_ref04_Plain)], sch := [], ob := [], qs := [13, 15, 18, 19, 20, 26, 27, 28] }
@[go_sem] theorem cx_law04_GfpowPlain_md : cx_law04_GfpowPlain.md = 0 := rfl
@[go_sem] theorem cx_law04_GfpowPlain_T : cx_law04_GfpowPlain.T = T := rfl
@[go_sem] theorem cx_law04_GfpowPlain_cs : cx_law04_GfpowPlain.cs = [(13, c_law04_awake), (15, c_gfpow_Pow), (18, c_ref02_Parts), (19, c_ref02_Words), (20, c_ref02_Of), (26, c_gfp_Deg), (27, c_wide_Of), (28, c_ref04_Plain)] := rfl
@[go_sem] theorem cx_law04_GfpowPlain_ob (d : Nat) : (cx_law04_GfpowPlain.ob).contains d = false := rfl
theorem cok_law04_GfpowPlain : COk Try.prog (cx_law04_GfpowPlain) := cok_of rfl (.cons ok_law04_awake (.cons ok_gfpow_Pow (.cons ok_ref02_Parts (.cons ok_ref02_Words (.cons ok_ref02_Of (.cons ok_gfp_Deg (.cons ok_wide_Of (.cons ok_ref04_Plain (.nil))))))))) (.cons (fun _ => fn0_quiet) (.cons (fun _ => fn3i_quiet) (.cons (fun _ => fn1_quiet) (.cons (fun _ => fn2_quiet) (.cons (fun _ => fn1_quiet) (.cons (fun _ => fn1_quiet) (.cons (fun _ => fn1_quiet) (.cons (fun _ => fn3_quiet) (.nil))))))))) (.nil)
set_option maxHeartbeats 4000000 in
theorem ok_law04_GfpowPlain : Ok Try.prog 4 c_law04_GfpowPlain := by
  refine ok_fn3 cok_law04_GfpowPlain mixed Try.func4 rfl (by kernel_rfl) (by kernel_rfl) rfl ?_
  intro a p n om hw hpl
  have h1 := bl_pv (wf_u ⟨hw.1, trivial⟩).2
  have h2 := bl_pv (wf_u ⟨hw.2.1, trivial⟩).2
  have hn : n < 256 := hw.2.2.1
  obtain ⟨A, hA⟩ : ∃ A, pv a = A := ⟨_, rfl⟩
  obtain ⟨P, hP⟩ : ∃ P, pv p = P := ⟨_, rfl⟩
  rw [hA] at h1
  rw [hP] at h2
  have z1 := bl_eq_zero (x := P)
  have q : n % 18446744073709551616 = n := Nat.mod_eq_of_lt (by omega)
  have d := tW_dec n
  rw [q] at d
  rcases Decidable.em (P = 0) with hz | hz
  · simp (maxSteps := 10000000) only [go_sem, Try.f4, Nat.reduceEqDiff, Nat.reduceBEq, Int.reduceToNat, Nat.reducePow, Nat.reduceMod, Nat.reduceAdd, Nat.reduceSub, Nat.reduceMul, Nat.reduceDiv, Nat.reduceLeDiff, Int.reduceAdd, Int.reduceSub, Int.reduceMul, Int.reduceDiv, Int.reduceMod, Int.reduceLE, Int.reduceLT, Int.reduceNeg, Int.reduceEq, Int.cast_ofNat_Int, Int.natCast_zero, List.contains_cons, List.contains_nil, Bool.or_false, Bool.or_true, Bool.true_or, reduceCtorEq, or_false, or_true, false_or, true_or, and_false, false_and, ne_eq, List.take_zero, List.take_succ_cons, List.take_nil, List.drop_zero, List.drop_succ_cons, List.drop_nil, decide_true, decide_false, c_law04_awake, c_gfpow_Pow, c_ref02_Parts, c_ref02_Words, c_ref02_Of, c_gfp_Deg, c_wide_Of, c_ref04_Plain, hA, hP, hz, bl_zero, Nat.reduceLT]
    clear hw hA hP
    repeat' (first | with_reducible refine And.intro ?_ ?_ | with_reducible intro _)
    all_goals first | omega | trivial
  · have c1 := pwr_lt A hz n
    simp (maxSteps := 10000000) only [go_sem, Try.f4, Nat.reduceEqDiff, Nat.reduceBEq, Int.reduceToNat, Nat.reducePow, Nat.reduceMod, Nat.reduceAdd, Nat.reduceSub, Nat.reduceMul, Nat.reduceDiv, Nat.reduceLeDiff, Int.reduceAdd, Int.reduceSub, Int.reduceMul, Int.reduceDiv, Int.reduceMod, Int.reduceLE, Int.reduceLT, Int.reduceNeg, Int.reduceEq, Int.cast_ofNat_Int, Int.natCast_zero, List.contains_cons, List.contains_nil, Bool.or_false, Bool.or_true, Bool.true_or, reduceCtorEq, or_false, or_true, false_or, true_or, and_false, false_and, ne_eq, List.take_zero, List.take_succ_cons, List.take_nil, List.drop_zero, List.drop_succ_cons, List.drop_nil, decide_true, decide_false, c_law04_awake, c_gfpow_Pow, c_ref02_Parts, c_ref02_Words, c_ref02_Of, c_gfp_Deg, c_wide_Of, c_ref04_Plain, hA, hP, hz, q, d]
    clear hw hA hP d
    repeat' (first | with_reducible refine And.intro ?_ ?_ | with_reducible intro _)
    all_goals first | omega | trivial

def c_law04_GfpowAdds : Cn := fn4 tU tU (tN .u64) (tN .u64) (fun _ p _ _ => p.length ≤ 17592186044416) fun _ _ _ _ => .b true
noncomputable def cx_law04_GfpowAdds : Cx := { T := T, cs := [(13, c_law04_awake), (14, c_law04_large), (15, c_gfpow_Pow), (26, c_gfp_Deg), (27, c_wide_Of), (32, c_gfdiv_MulMod), (33, c_wide_Full), (34, c_gfp_Same)], sch := [], ob := [], qs := [13, 14, 15, 26, 27, 32, 33, 34] }
@[go_sem] theorem cx_law04_GfpowAdds_md : cx_law04_GfpowAdds.md = 0 := rfl
@[go_sem] theorem cx_law04_GfpowAdds_T : cx_law04_GfpowAdds.T = T := rfl
@[go_sem] theorem cx_law04_GfpowAdds_cs : cx_law04_GfpowAdds.cs = [(13, c_law04_awake), (14, c_law04_large), (15, c_gfpow_Pow), (26, c_gfp_Deg), (27, c_wide_Of), (32, c_gfdiv_MulMod), (33, c_wide_Full), (34, c_gfp_Same)] := rfl
@[go_sem] theorem cx_law04_GfpowAdds_ob (d : Nat) : (cx_law04_GfpowAdds.ob).contains d = false := rfl
theorem cok_law04_GfpowAdds : COk Try.prog (cx_law04_GfpowAdds) := cok_of rfl (.cons ok_law04_awake (.cons ok_law04_large (.cons ok_gfpow_Pow (.cons ok_gfp_Deg (.cons ok_wide_Of (.cons ok_gfdiv_MulMod (.cons ok_wide_Full (.cons ok_gfp_Same (.nil))))))))) (.cons (fun _ => fn0_quiet) (.cons (fun _ => fn1_quiet) (.cons (fun _ => fn3i_quiet) (.cons (fun _ => fn1_quiet) (.cons (fun _ => fn1_quiet) (.cons (fun _ => fn3i_quiet) (.cons (fun _ => fn2_quiet) (.cons (fun _ => fn2_quiet) (.nil))))))))) (.nil)
set_option maxHeartbeats 4000000 in
theorem ok_law04_GfpowAdds : Ok Try.prog 6 c_law04_GfpowAdds := by
  refine ok_fn4 cok_law04_GfpowAdds mixed Try.func6 rfl (by kernel_rfl) (by kernel_rfl) rfl ?_
  intro a p n m om hw hpl
  have h1 := bl_pv (wf_u ⟨hw.1, trivial⟩).2
  have h2 := bl_pv (wf_u ⟨hw.2.1, trivial⟩).2
  have hn : n < 18446744073709551616 := hw.2.2.1
  have hm : m < 18446744073709551616 := hw.2.2.2.1
  obtain ⟨A, hA⟩ : ∃ A, pv a = A := ⟨_, rfl⟩
  obtain ⟨P, hP⟩ : ∃ P, pv p = P := ⟨_, rfl⟩
  rw [hA] at h1
  rw [hP] at h2
  have z1 := bl_eq_zero (x := P)
  cases hL : ([a, p].any fun xs => decide (4 < xs.length)) with
  | true =>
    simp (maxSteps := 10000000) only [go_sem, Try.f6, Nat.reduceEqDiff, Nat.reduceBEq, Int.reduceToNat, Nat.reducePow, Nat.reduceMod, Nat.reduceAdd, Nat.reduceSub, Nat.reduceMul, Nat.reduceDiv, Nat.reduceLeDiff, Int.reduceAdd, Int.reduceSub, Int.reduceMul, Int.reduceDiv, Int.reduceMod, Int.reduceLE, Int.reduceLT, Int.reduceNeg, Int.reduceEq, Int.cast_ofNat_Int, Int.natCast_zero, List.contains_cons, List.contains_nil, Bool.or_false, Bool.or_true, Bool.true_or, reduceCtorEq, or_false, or_true, false_or, true_or, and_false, false_and, ne_eq, List.take_zero, List.take_succ_cons, List.take_nil, List.drop_zero, List.drop_succ_cons, List.drop_nil, decide_true, decide_false, c_law04_awake, c_law04_large, c_gfpow_Pow, c_gfp_Deg, c_wide_Of, c_gfdiv_MulMod, c_wide_Full, c_gfp_Same, hL]
    rfl
  | false =>
  have hla : a.length ≤ 4 ∧ p.length ≤ 4 := by simpa using hL
  obtain ⟨l1, l2⟩ := hla
  rcases Decidable.em (P = 0) with hz | hz
  · simp (maxSteps := 10000000) only [go_sem, Try.f6, Nat.reduceEqDiff, Nat.reduceBEq, Int.reduceToNat, Nat.reducePow, Nat.reduceMod, Nat.reduceAdd, Nat.reduceSub, Nat.reduceMul, Nat.reduceDiv, Nat.reduceLeDiff, Int.reduceAdd, Int.reduceSub, Int.reduceMul, Int.reduceDiv, Int.reduceMod, Int.reduceLE, Int.reduceLT, Int.reduceNeg, Int.reduceEq, Int.cast_ofNat_Int, Int.natCast_zero, List.contains_cons, List.contains_nil, Bool.or_false, Bool.or_true, Bool.true_or, reduceCtorEq, or_false, or_true, false_or, true_or, and_false, false_and, ne_eq, List.take_zero, List.take_succ_cons, List.take_nil, List.drop_zero, List.drop_succ_cons, List.drop_nil, decide_true, decide_false, c_law04_awake, c_law04_large, c_gfpow_Pow, c_gfp_Deg, c_wide_Of, c_gfdiv_MulMod, c_wide_Full, c_gfp_Same, hL, hA, hP, hz, bl_zero, Nat.reduceLT]
    clear hw hA hP hL
    repeat' (first | with_reducible refine And.intro ?_ ?_ | with_reducible intro _)
    all_goals first | omega | trivial
  rcases Decidable.em (1152921504606846976 < n) with g1 | g1
  · simp (maxSteps := 10000000) only [go_sem, Try.f6, Nat.reduceEqDiff, Nat.reduceBEq, Int.reduceToNat, Nat.reducePow, Nat.reduceMod, Nat.reduceAdd, Nat.reduceSub, Nat.reduceMul, Nat.reduceDiv, Nat.reduceLeDiff, Int.reduceAdd, Int.reduceSub, Int.reduceMul, Int.reduceDiv, Int.reduceMod, Int.reduceLE, Int.reduceLT, Int.reduceNeg, Int.reduceEq, Int.cast_ofNat_Int, Int.natCast_zero, List.contains_cons, List.contains_nil, Bool.or_false, Bool.or_true, Bool.true_or, reduceCtorEq, or_false, or_true, false_or, true_or, and_false, false_and, ne_eq, List.take_zero, List.take_succ_cons, List.take_nil, List.drop_zero, List.drop_succ_cons, List.drop_nil, decide_true, decide_false, c_law04_awake, c_law04_large, c_gfpow_Pow, c_gfp_Deg, c_wide_Of, c_gfdiv_MulMod, c_wide_Full, c_gfp_Same, hL, hA, hP, hz, g1]
    clear hw hA hP hL
    repeat' (first | with_reducible refine And.intro ?_ ?_ | with_reducible intro _)
    all_goals first | omega | trivial
  rcases Decidable.em (1152921504606846976 < m) with g2 | g2
  · simp (maxSteps := 10000000) only [go_sem, Try.f6, Nat.reduceEqDiff, Nat.reduceBEq, Int.reduceToNat, Nat.reducePow, Nat.reduceMod, Nat.reduceAdd, Nat.reduceSub, Nat.reduceMul, Nat.reduceDiv, Nat.reduceLeDiff, Int.reduceAdd, Int.reduceSub, Int.reduceMul, Int.reduceDiv, Int.reduceMod, Int.reduceLE, Int.reduceLT, Int.reduceNeg, Int.reduceEq, Int.cast_ofNat_Int, Int.natCast_zero, List.contains_cons, List.contains_nil, Bool.or_false, Bool.or_true, Bool.true_or, reduceCtorEq, or_false, or_true, false_or, true_or, and_false, false_and, ne_eq, List.take_zero, List.take_succ_cons, List.take_nil, List.drop_zero, List.drop_succ_cons, List.drop_nil, decide_true, decide_false, c_law04_awake, c_law04_large, c_gfpow_Pow, c_gfp_Deg, c_wide_Of, c_gfdiv_MulMod, c_wide_Full, c_gfp_Same, hL, hA, hP, hz, g1, g2]
    clear hw hA hP hL
    repeat' (first | with_reducible refine And.intro ?_ ?_ | with_reducible intro _)
    all_goals first | omega | trivial
  · have c1 := pwr_lt A hz n
    have c2 := pwr_lt A hz m
    have c3 := pwr_lt A hz (n + m)
    have c4 := pwr_lt (pwr A P n) hz m
    have c5 := pwr_lt A hz (n * m)
    have e1 := pwr_add A hz n m
    have e2 := pwr_mul A hz n m
    have q1 : (n + m) % 18446744073709551616 = n + m := Nat.mod_eq_of_lt (by omega)
    have c6 := rm_lt (cm (pwr A P n) (pwr A P m)) hz
    have d := tW_dec (n + m)
    rw [q1] at d
    simp (maxSteps := 10000000) only [go_sem, Try.f6, Nat.reduceEqDiff, Nat.reduceBEq, Int.reduceToNat, Nat.reducePow, Nat.reduceMod, Nat.reduceAdd, Nat.reduceSub, Nat.reduceMul, Nat.reduceDiv, Nat.reduceLeDiff, Int.reduceAdd, Int.reduceSub, Int.reduceMul, Int.reduceDiv, Int.reduceMod, Int.reduceLE, Int.reduceLT, Int.reduceNeg, Int.reduceEq, Int.cast_ofNat_Int, Int.natCast_zero, List.contains_cons, List.contains_nil, Bool.or_false, Bool.or_true, Bool.true_or, reduceCtorEq, or_false, or_true, false_or, true_or, and_false, false_and, ne_eq, List.take_zero, List.take_succ_cons, List.take_nil, List.drop_zero, List.drop_succ_cons, List.drop_nil, decide_true, decide_false, c_law04_awake, c_law04_large, c_gfpow_Pow, c_gfp_Deg, c_wide_Of, c_gfdiv_MulMod, c_wide_Full, c_gfp_Same, hL, hA, hP, hz, g1, g2, q1, d, ← e1, e2]
    clear hw hA hP hL e1 e2 d
    repeat' (first | with_reducible refine And.intro ?_ ?_ | with_reducible intro _)
    all_goals first | omega | trivial
end Go.Proofs.Ytaojebdjkpdcdaa.I
