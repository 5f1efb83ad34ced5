/- GfdivRests, GfdivTells, as contracts. -/
import Derived.Test.YtbngamllllbfpaaLaw03
namespace Go.Proofs.Ytbngamllllbfpaa.I
open Go
set_option maxRecDepth 10000
set_option linter.unusedSimpArgs false
set_option linter.unusedVariables false

theorem bl_iv_le (a : Nat) {p : Nat} (hp : p ≠ 0) : bl (iv a p) < bl p := rm_lt _ hp

def c_law03_GfdivRests : Cn := fn3 tU tU tU (fun _ _ _ => True) fun _ _ _ => .b true
noncomputable def cx_law03_GfdivRests : Cx := { T := T, cs := [(24, c_gfp_Deg), (28, c_gfp_Add), (33, c_gfp_Same), (34, c_law03_awake), (36, c_gfdiv_Mod), (37, c_gfdiv_Inverse), (39, c_gfdiv_Gcd), (42, c_gfdiv_MulMod)], sch := [], ob := [], qs := [24, 28, 33, 34, 36, 37, 39, 42] }
@[go_sem] theorem cx_law03_GfdivRests_T : cx_law03_GfdivRests.T = T := rfl
@[go_sem] theorem cx_law03_GfdivRests_cs : cx_law03_GfdivRests.cs = [(24, c_gfp_Deg), (28, c_gfp_Add), (33, c_gfp_Same), (34, c_law03_awake), (36, c_gfdiv_Mod), (37, c_gfdiv_Inverse), (39, c_gfdiv_Gcd), (42, c_gfdiv_MulMod)] := rfl
@[go_sem] theorem cx_law03_GfdivRests_ob (d : Nat) : cx_law03_GfdivRests.ob.contains d = false := rfl
theorem cok_law03_GfdivRests : COk Try.prog cx_law03_GfdivRests := cok_of rfl (.cons ok_gfp_Deg (.cons ok_gfp_Add (.cons ok_gfp_Same (.cons ok_law03_awake (.cons ok_gfdiv_Mod (.cons ok_gfdiv_Inverse (.cons ok_gfdiv_Gcd (.cons ok_gfdiv_MulMod (.nil))))))))) (.cons (fun _ => fn1_quiet) (.cons (fun _ => fn2_quiet) (.cons (fun _ => fn2_quiet) (.cons (fun _ => fn0_quiet) (.cons (fun _ => fn2i_quiet) (.cons (fun _ => fn2j_quiet) (.cons (fun _ => fn2_quiet) (.cons (fun _ => fn3i_quiet) (.nil)))))))))
set_option maxHeartbeats 4000000 in
theorem ok_law03_GfdivRests : Ok Try.prog 10 c_law03_GfdivRests := by
  refine ok_fn3 cok_law03_GfdivRests mixed Try.func10 rfl (by kernel_rfl) (by kernel_rfl) ?_
  intro a b p om hw _
  have ha := (wf_u ⟨hw.1, trivial⟩).2
  have hb := (wf_u ⟨hw.2.1, trivial⟩).2
  have hp := (wf_u ⟨hw.2.2.1, trivial⟩).2
  have h1 := bl_pv ha
  have h2 := bl_pv hb
  have h3 := bl_pv hp
  obtain ⟨A, hA⟩ : ∃ A, pv a = A := ⟨_, rfl⟩
  obtain ⟨B, hB⟩ : ∃ B, pv b = B := ⟨_, rfl⟩
  obtain ⟨P, hP⟩ : ∃ P, pv p = P := ⟨_, rfl⟩
  rw [hA] at h1
  rw [hB] at h2
  rw [hP] at h3
  have z1 := bl_eq_zero (x := P)
  have u1 : bl 1 = 1 := rfl
  rcases Decidable.em (P = 0) with hz | hz
  · simp (maxSteps := 10000000) only [go_sem, Try.f10, Nat.reduceEqDiff, Nat.reduceBEq, Int.reduceToNat, Nat.reducePow, Nat.reduceMod, Nat.reduceAdd, Nat.reduceSub, Nat.reduceMul, Nat.reduceDiv, Nat.reduceLeDiff, Int.reduceAdd, Int.reduceSub, Int.reduceMul, Int.reduceDiv, Int.reduceMod, Int.reduceLE, Int.reduceLT, Int.reduceNeg, Int.reduceEq, Int.cast_ofNat_Int, Int.natCast_zero, List.contains_cons, List.contains_nil, Bool.or_false, Bool.or_true, Bool.true_or, reduceCtorEq, or_false, or_true, false_or, true_or, and_false, false_and, ne_eq, List.take_zero, List.take_succ_cons, List.take_nil, List.drop_zero, List.drop_succ_cons, List.drop_nil, decide_true, decide_false, c_gfp_Deg, c_gfp_Add, c_gfp_Same, c_law03_awake, c_gfdiv_Mod, c_gfdiv_Inverse, c_gfdiv_Gcd, c_gfdiv_MulMod, hA, hB, hP, hz, bl_zero]
    clear hw ha hb hp hA hB hP
    repeat' (first | with_reducible refine And.intro ?_ ?_ | with_reducible intro _)
    all_goals first | omega | trivial
  · have e1 := rm_xor A B hz
    have e2 := rm_cm A B hz
    have b0 := bl_cm_le A B
    have b1 := bl_cm_le (rm A P) (rm B P)
    have b2 := rm_lt A hz
    have b3 := rm_lt B hz
    have b4 := rm_lt (A ^^^ B) hz
    have b5 := rm_lt (cm A B) hz
    have b6 := bl_xor_le A B
    have b7 := bl_xor_le (rm A P) (rm B P)
    have b8 := gd_bl A P
    have b9 := bl_one_iff (a := gd A P)
    have c1 := bl_iv_le A hz
    have c2 := bl_cm_le A (iv A P)
    have c3 := rm_lt 1 hz
    have c4 := rm_lt (cm A (iv A P)) hz
    rcases Decidable.em (gd A P = 1) with hg | hg
    · have e3 : rm (cm A (iv A P)) P = rm 1 P := (rm_eq_iff hz).2 (by rw [cm_comm]; exact (iv_spec hz hg).1)
      simp (maxSteps := 10000000) only [go_sem, Try.f10, Nat.reduceEqDiff, Nat.reduceBEq, Int.reduceToNat, Nat.reducePow, Nat.reduceMod, Nat.reduceAdd, Nat.reduceSub, Nat.reduceMul, Nat.reduceDiv, Nat.reduceLeDiff, Int.reduceAdd, Int.reduceSub, Int.reduceMul, Int.reduceDiv, Int.reduceMod, Int.reduceLE, Int.reduceLT, Int.reduceNeg, Int.reduceEq, Int.cast_ofNat_Int, Int.natCast_zero, List.contains_cons, List.contains_nil, Bool.or_false, Bool.or_true, Bool.true_or, reduceCtorEq, or_false, or_true, false_or, true_or, and_false, false_and, ne_eq, List.take_zero, List.take_succ_cons, List.take_nil, List.drop_zero, List.drop_succ_cons, List.drop_nil, decide_true, decide_false, c_gfp_Deg, c_gfp_Add, c_gfp_Same, c_law03_awake, c_gfdiv_Mod, c_gfdiv_Inverse, c_gfdiv_Gcd, c_gfdiv_MulMod, hA, hB, hP, hz, hg, e1, e2, e3]
      clear hw ha hb hp hA hB hP
      repeat' (first | with_reducible refine And.intro ?_ ?_ | with_reducible intro _)
      all_goals first | omega | trivial
    · simp (maxSteps := 10000000) only [go_sem, Try.f10, Nat.reduceEqDiff, Nat.reduceBEq, Int.reduceToNat, Nat.reducePow, Nat.reduceMod, Nat.reduceAdd, Nat.reduceSub, Nat.reduceMul, Nat.reduceDiv, Nat.reduceLeDiff, Int.reduceAdd, Int.reduceSub, Int.reduceMul, Int.reduceDiv, Int.reduceMod, Int.reduceLE, Int.reduceLT, Int.reduceNeg, Int.reduceEq, Int.cast_ofNat_Int, Int.natCast_zero, List.contains_cons, List.contains_nil, Bool.or_false, Bool.or_true, Bool.true_or, reduceCtorEq, or_false, or_true, false_or, true_or, and_false, false_and, ne_eq, List.take_zero, List.take_succ_cons, List.take_nil, List.drop_zero, List.drop_succ_cons, List.drop_nil, decide_true, decide_false, c_gfp_Deg, c_gfp_Add, c_gfp_Same, c_law03_awake, c_gfdiv_Mod, c_gfdiv_Inverse, c_gfdiv_Gcd, c_gfdiv_MulMod, hA, hB, hP, hz, hg, e1, e2]
      clear hw ha hb hp hA hB hP
      repeat' (first | with_reducible refine And.intro ?_ ?_ | with_reducible intro _)
      all_goals first | omega | trivial

def c_law03_GfdivTells : Cn := fn2 tU tU (fun _ _ => True) fun _ _ => .b true
noncomputable def cx_law03_GfdivTells : Cx := { T := T, cs := [(16, c_law02_Large), (17, c_ref02_Parts), (20, c_ref02_Words), (22, c_ref02_Of), (34, c_law03_awake), (35, c_gfdiv_Div), (36, c_gfdiv_Mod), (37, c_gfdiv_Inverse), (38, c_ref03_Inverse), (39, c_gfdiv_Gcd), (40, c_ref03_Gcd), (41, c_ref03_Div)], sch := [], ob := [], qs := [16, 17, 20, 22, 34, 35, 36, 37, 38, 39, 40, 41] }
@[go_sem] theorem cx_law03_GfdivTells_T : cx_law03_GfdivTells.T = T := rfl
@[go_sem] theorem cx_law03_GfdivTells_cs : cx_law03_GfdivTells.cs = [(16, c_law02_Large), (17, c_ref02_Parts), (20, c_ref02_Words), (22, c_ref02_Of), (34, c_law03_awake), (35, c_gfdiv_Div), (36, c_gfdiv_Mod), (37, c_gfdiv_Inverse), (38, c_ref03_Inverse), (39, c_gfdiv_Gcd), (40, c_ref03_Gcd), (41, c_ref03_Div)] := rfl
@[go_sem] theorem cx_law03_GfdivTells_ob (d : Nat) : cx_law03_GfdivTells.ob.contains d = false := rfl
theorem cok_law03_GfdivTells : COk Try.prog cx_law03_GfdivTells := cok_of rfl (.cons ok_law02_Large (.cons ok_ref02_Parts (.cons ok_ref02_Words (.cons ok_ref02_Of (.cons ok_law03_awake (.cons ok_gfdiv_Div (.cons ok_gfdiv_Mod (.cons ok_gfdiv_Inverse (.cons ok_ref03_Inverse (.cons ok_gfdiv_Gcd (.cons ok_ref03_Gcd (.cons ok_ref03_Div (.nil))))))))))))) (.cons (fun _ => fn1_quiet) (.cons (fun _ => fn1_quiet) (.cons (fun _ => fn2_quiet) (.cons (fun _ => fn1_quiet) (.cons (fun _ => fn0_quiet) (.cons (fun _ => fn2i_quiet) (.cons (fun _ => fn2i_quiet) (.cons (fun _ => fn2j_quiet) (.cons (fun _ => fn2j_quiet) (.cons (fun _ => fn2_quiet) (.cons (fun _ => fn2_quiet) (.cons (fun _ => fn2_quiet) (.nil)))))))))))))
set_option maxHeartbeats 4000000 in
theorem ok_law03_GfdivTells : Ok Try.prog 7 c_law03_GfdivTells := by
  refine ok_fn2 cok_law03_GfdivTells mixed Try.func7 rfl (by kernel_rfl) (by kernel_rfl) ?_
  intro a b om hw _
  have ha := (wf_u ⟨hw.1, trivial⟩).2
  have hb := (wf_u ⟨hw.2.1, trivial⟩).2
  have h1 := bl_pv ha
  have h2 := bl_pv hb
  obtain ⟨A, hA⟩ : ∃ A, pv a = A := ⟨_, rfl⟩
  obtain ⟨B, hB⟩ : ∃ B, pv b = B := ⟨_, rfl⟩
  rw [hA] at h1
  rw [hB] at h2
  have z1 := bl_eq_zero (x := B)
  cases hL : ([a, b].any fun xs => decide (16 < xs.length)) with
  | true =>
    simp (maxSteps := 10000000) only [go_sem, Try.f7, Nat.reduceEqDiff, Nat.reduceBEq, Int.reduceToNat, Nat.reducePow, Nat.reduceMod, Nat.reduceAdd, Nat.reduceSub, Nat.reduceMul, Nat.reduceDiv, Nat.reduceLeDiff, Int.reduceAdd, Int.reduceSub, Int.reduceMul, Int.reduceDiv, Int.reduceMod, Int.reduceLE, Int.reduceLT, Int.reduceNeg, Int.reduceEq, Int.cast_ofNat_Int, Int.natCast_zero, List.contains_cons, List.contains_nil, Bool.or_false, Bool.or_true, Bool.true_or, reduceCtorEq, or_false, or_true, false_or, true_or, and_false, false_and, ne_eq, List.take_zero, List.take_succ_cons, List.take_nil, List.drop_zero, List.drop_succ_cons, List.drop_nil, decide_true, decide_false, c_law02_Large, c_ref02_Parts, c_ref02_Words, c_ref02_Of, c_law03_awake, c_gfdiv_Div, c_gfdiv_Mod, c_gfdiv_Inverse, c_ref03_Inverse, c_gfdiv_Gcd, c_ref03_Gcd, c_ref03_Div, hL]
    rfl
  | false =>
  have hla : a.length ≤ 16 ∧ b.length ≤ 16 := by simpa using hL
  obtain ⟨l1, l2⟩ := hla
  have b8 := gd_bl A B
  rcases Decidable.em (B = 0) with hz | hz
  · have b9 := gd_bl A 0
    have u0 : bl 0 = 0 := bl_zero
    simp (maxSteps := 10000000) only [go_sem, Try.f7, Nat.reduceEqDiff, Nat.reduceBEq, Int.reduceToNat, Nat.reducePow, Nat.reduceMod, Nat.reduceAdd, Nat.reduceSub, Nat.reduceMul, Nat.reduceDiv, Nat.reduceLeDiff, Int.reduceAdd, Int.reduceSub, Int.reduceMul, Int.reduceDiv, Int.reduceMod, Int.reduceLE, Int.reduceLT, Int.reduceNeg, Int.reduceEq, Int.cast_ofNat_Int, Int.natCast_zero, List.contains_cons, List.contains_nil, Bool.or_false, Bool.or_true, Bool.true_or, reduceCtorEq, or_false, or_true, false_or, true_or, and_false, false_and, ne_eq, List.take_zero, List.take_succ_cons, List.take_nil, List.drop_zero, List.drop_succ_cons, List.drop_nil, decide_true, decide_false, c_law02_Large, c_ref02_Parts, c_ref02_Words, c_ref02_Of, c_law03_awake, c_gfdiv_Div, c_gfdiv_Mod, c_gfdiv_Inverse, c_ref03_Inverse, c_gfdiv_Gcd, c_ref03_Gcd, c_ref03_Div, hL, hA, hB, hz, bl_zero]
    clear hw ha hb hA hB hL
    repeat' (first | with_reducible refine And.intro ?_ ?_ | with_reducible intro _)
    all_goals first | omega | trivial | rfl
  · have c1 := bl_iv_le A hz
    have b5 := rm_lt A hz
    have b6 := bl_qd_le A hz
    rcases Decidable.em (gd A B = 1) with hg | hg
    · simp (maxSteps := 10000000) only [go_sem, Try.f7, Nat.reduceEqDiff, Nat.reduceBEq, Int.reduceToNat, Nat.reducePow, Nat.reduceMod, Nat.reduceAdd, Nat.reduceSub, Nat.reduceMul, Nat.reduceDiv, Nat.reduceLeDiff, Int.reduceAdd, Int.reduceSub, Int.reduceMul, Int.reduceDiv, Int.reduceMod, Int.reduceLE, Int.reduceLT, Int.reduceNeg, Int.reduceEq, Int.cast_ofNat_Int, Int.natCast_zero, List.contains_cons, List.contains_nil, Bool.or_false, Bool.or_true, Bool.true_or, reduceCtorEq, or_false, or_true, false_or, true_or, and_false, false_and, ne_eq, List.take_zero, List.take_succ_cons, List.take_nil, List.drop_zero, List.drop_succ_cons, List.drop_nil, decide_true, decide_false, c_law02_Large, c_ref02_Parts, c_ref02_Words, c_ref02_Of, c_law03_awake, c_gfdiv_Div, c_gfdiv_Mod, c_gfdiv_Inverse, c_ref03_Inverse, c_gfdiv_Gcd, c_ref03_Gcd, c_ref03_Div, hL, hA, hB, hz, hg]
      clear hw ha hb hA hB hL
      repeat' (first | with_reducible refine And.intro ?_ ?_ | with_reducible intro _)
      all_goals first | omega | trivial | rfl
    · simp (maxSteps := 10000000) only [go_sem, Try.f7, Nat.reduceEqDiff, Nat.reduceBEq, Int.reduceToNat, Nat.reducePow, Nat.reduceMod, Nat.reduceAdd, Nat.reduceSub, Nat.reduceMul, Nat.reduceDiv, Nat.reduceLeDiff, Int.reduceAdd, Int.reduceSub, Int.reduceMul, Int.reduceDiv, Int.reduceMod, Int.reduceLE, Int.reduceLT, Int.reduceNeg, Int.reduceEq, Int.cast_ofNat_Int, Int.natCast_zero, List.contains_cons, List.contains_nil, Bool.or_false, Bool.or_true, Bool.true_or, reduceCtorEq, or_false, or_true, false_or, true_or, and_false, false_and, ne_eq, List.take_zero, List.take_succ_cons, List.take_nil, List.drop_zero, List.drop_succ_cons, List.drop_nil, decide_true, decide_false, c_law02_Large, c_ref02_Parts, c_ref02_Words, c_ref02_Of, c_law03_awake, c_gfdiv_Div, c_gfdiv_Mod, c_gfdiv_Inverse, c_ref03_Inverse, c_gfdiv_Gcd, c_ref03_Gcd, c_ref03_Div, hL, hA, hB, hz, hg]
      clear hw ha hb hA hB hL
      repeat' (first | with_reducible refine And.intro ?_ ?_ | with_reducible intro _)
      all_goals first | omega | trivial | rfl
end Go.Proofs.Ytbngamllllbfpaa.I
