/- The statements of layer 3, as contracts. -/
import Derived.Test.YtbngamllllbfpaaLaw03
namespace Go.Proofs.Ytbngamllllbfpaa.I
open Go
set_option maxRecDepth 10000
set_option linter.unusedSimpArgs false
set_option linter.unusedVariables false

def c_law03_GfdivBack : Cn := fn3 tU tU tU (fun _ _ _ => True) fun _ _ _ => .b true
noncomputable def cx_law03_GfdivBack : Cx := { T := T, cs := [(24, c_gfp_Deg), (28, c_gfp_Add), (31, c_gfp_Mul), (33, c_gfp_Same), (34, c_law03_awake), (35, c_gfdiv_Div), (36, c_gfdiv_Mod)], sch := [], ob := [], qs := [24, 28, 31, 33, 34, 35, 36] }
@[go_sem] theorem cx_law03_GfdivBack_T : cx_law03_GfdivBack.T = T := rfl
@[go_sem] theorem cx_law03_GfdivBack_cs : cx_law03_GfdivBack.cs = [(24, c_gfp_Deg), (28, c_gfp_Add), (31, c_gfp_Mul), (33, c_gfp_Same), (34, c_law03_awake), (35, c_gfdiv_Div), (36, c_gfdiv_Mod)] := rfl
@[go_sem] theorem cx_law03_GfdivBack_ob (d : Nat) : cx_law03_GfdivBack.ob.contains d = false := rfl
theorem cok_law03_GfdivBack : COk Try.prog cx_law03_GfdivBack := cok_of rfl (.cons ok_gfp_Deg (.cons ok_gfp_Add (.cons ok_gfp_Mul (.cons ok_gfp_Same (.cons ok_law03_awake (.cons ok_gfdiv_Div (.cons ok_gfdiv_Mod (.nil)))))))) (.cons (fun _ => fn1_quiet) (.cons (fun _ => fn2_quiet) (.cons (fun _ => fn2_quiet) (.cons (fun _ => fn2_quiet) (.cons (fun _ => fn0_quiet) (.cons (fun _ => fn2i_quiet) (.cons (fun _ => fn2i_quiet) (.nil))))))))
set_option maxHeartbeats 4000000 in
theorem ok_law03_GfdivBack : Ok Try.prog 8 c_law03_GfdivBack := by
  refine ok_fn3 cok_law03_GfdivBack mixed Try.func8 rfl (by kernel_rfl) (by kernel_rfl) ?_
  intro a b c om hw _
  have ha := (wf_u ⟨hw.1, trivial⟩).2
  have hb := (wf_u ⟨hw.2.1, trivial⟩).2
  have hc := (wf_u ⟨hw.2.2.1, trivial⟩).2
  have h1 := bl_pv ha
  have h2 := bl_pv hb
  have h3 := bl_pv hc
  have hb0 := bl_eq_zero (x := pv b)
  rcases Decidable.em (pv b = 0) with hz | hz
  · have h4 : bl (pv b) = 0 := hb0.2 hz
    simp (maxSteps := 10000000) only [go_sem, Try.f8, Nat.reduceEqDiff, Nat.reduceBEq, Int.reduceToNat, Nat.reducePow, Nat.reduceMod, Nat.reduceAdd, Nat.reduceSub, Nat.reduceMul, Nat.reduceDiv, Nat.reduceLeDiff, Int.reduceAdd, Int.reduceSub, Int.reduceMul, Int.reduceDiv, Int.reduceMod, Int.reduceLE, Int.reduceLT, Int.reduceNeg, Int.reduceEq, Int.cast_ofNat_Int, Int.natCast_zero, List.contains_cons, List.contains_nil, Bool.or_false, Bool.or_true, Bool.true_or, reduceCtorEq, or_false, or_true, false_or, true_or, and_false, false_and, ne_eq, List.take_zero, List.take_succ_cons, List.take_nil, List.drop_zero, List.drop_succ_cons, List.drop_nil, decide_true, decide_false, c_gfp_Deg, c_gfp_Add, c_gfp_Mul, c_gfp_Same, c_law03_awake, c_gfdiv_Div, c_gfdiv_Mod, hz, bl_zero]
    repeat' (first | with_reducible refine And.intro ?_ ?_ | with_reducible intro _)
    all_goals omega
  · simp (maxSteps := 10000000) only [go_sem, Try.f8, Nat.reduceEqDiff, Nat.reduceBEq, Int.reduceToNat, Nat.reducePow, Nat.reduceMod, Nat.reduceAdd, Nat.reduceSub, Nat.reduceMul, Nat.reduceDiv, Nat.reduceLeDiff, Int.reduceAdd, Int.reduceSub, Int.reduceMul, Int.reduceDiv, Int.reduceMod, Int.reduceLE, Int.reduceLT, Int.reduceNeg, Int.reduceEq, Int.cast_ofNat_Int, Int.natCast_zero, List.contains_cons, List.contains_nil, Bool.or_false, Bool.or_true, Bool.true_or, reduceCtorEq, or_false, or_true, false_or, true_or, and_false, false_and, ne_eq, List.take_zero, List.take_succ_cons, List.take_nil, List.drop_zero, List.drop_succ_cons, List.drop_nil, decide_true, decide_false, c_gfp_Deg, c_gfp_Add, c_gfp_Mul, c_gfp_Same, c_law03_awake, c_gfdiv_Div, c_gfdiv_Mod, hz]
    obtain ⟨A, hA⟩ : ∃ A, pv a = A := ⟨_, rfl⟩
    obtain ⟨B, hB⟩ : ∃ B, pv b = B := ⟨_, rfl⟩
    obtain ⟨C, hC⟩ : ∃ C, pv c = C := ⟨_, rfl⟩
    rw [hA] at h1 ⊢
    rw [hB] at h2 hz hb0 ⊢
    rw [hC] at h3 ⊢
    obtain ⟨e1, e2⟩ := qr_spec A hz
    have e3 := rm_lt C hz
    obtain ⟨e4, e5⟩ := qr_eq (a := cm A B ^^^ rm C B) (b := B) rfl e3
    rw [e4, e5, ← e1]
    have b1 := bl_qd_le A hz
    have b2 := bl_cm_le (qd A B) B
    have b3 := bl_rm_le A hz
    have b4 := bl_rm_le C hz
    have b5 := bl_cm_le A B
    have b6 := bl_xor_le (cm A B) (rm C B)
    clear hw ha hb hc hA hB hC e1 e4 e5
    repeat' (first | with_reducible refine And.intro ?_ ?_ | with_reducible intro _)
    all_goals first | omega | trivial

def c_law03_GfdivGcd : Cn := fn3 tU tU tU (fun _ _ _ => True) fun _ _ _ => .b true
noncomputable def cx_law03_GfdivGcd : Cx := { T := T, cs := [(24, c_gfp_Deg), (31, c_gfp_Mul), (33, c_gfp_Same), (34, c_law03_awake), (36, c_gfdiv_Mod), (39, c_gfdiv_Gcd)], sch := [], ob := [], qs := [24, 31, 33, 34, 36, 39] }
@[go_sem] theorem cx_law03_GfdivGcd_T : cx_law03_GfdivGcd.T = T := rfl
@[go_sem] theorem cx_law03_GfdivGcd_cs : cx_law03_GfdivGcd.cs = [(24, c_gfp_Deg), (31, c_gfp_Mul), (33, c_gfp_Same), (34, c_law03_awake), (36, c_gfdiv_Mod), (39, c_gfdiv_Gcd)] := rfl
@[go_sem] theorem cx_law03_GfdivGcd_ob (d : Nat) : cx_law03_GfdivGcd.ob.contains d = false := rfl
theorem cok_law03_GfdivGcd : COk Try.prog cx_law03_GfdivGcd := cok_of rfl (.cons ok_gfp_Deg (.cons ok_gfp_Mul (.cons ok_gfp_Same (.cons ok_law03_awake (.cons ok_gfdiv_Mod (.cons ok_gfdiv_Gcd (.nil))))))) (.cons (fun _ => fn1_quiet) (.cons (fun _ => fn2_quiet) (.cons (fun _ => fn2_quiet) (.cons (fun _ => fn0_quiet) (.cons (fun _ => fn2i_quiet) (.cons (fun _ => fn2_quiet) (.nil)))))))
set_option maxHeartbeats 4000000 in
theorem ok_law03_GfdivGcd : Ok Try.prog 9 c_law03_GfdivGcd := by
  refine ok_fn3 cok_law03_GfdivGcd mixed Try.func9 rfl (by kernel_rfl) (by kernel_rfl) ?_
  intro a b c om hw _
  have ha := (wf_u ⟨hw.1, trivial⟩).2
  have hb := (wf_u ⟨hw.2.1, trivial⟩).2
  have hc := (wf_u ⟨hw.2.2.1, trivial⟩).2
  have h1 := bl_pv ha
  have h2 := bl_pv hb
  have h3 := bl_pv hc
  obtain ⟨A, hA⟩ : ∃ A, pv a = A := ⟨_, rfl⟩
  obtain ⟨B, hB⟩ : ∃ B, pv b = B := ⟨_, rfl⟩
  obtain ⟨C, hC⟩ : ∃ C, pv c = C := ⟨_, rfl⟩
  have z1 := bl_eq_zero (x := A)
  have z2 := bl_eq_zero (x := B)
  have z3 := gd_eq_zero (a := A) (b := B)
  have b1 := gd_bl A B
  have b2 := gd_bl B A
  have b3 := bl_cm_le A C
  have b4 := bl_cm_le B C
  have b5 := gd_bl (cm A C) (cm B C)
  have b6 := bl_cm_le (gd A B) C
  have e1 := gd_cm A B C
  have e2 := gd_comm A B
  rw [hA] at h1
  rw [hB] at h2
  rw [hC] at h3
  rcases Decidable.em (gd A B = 0) with hz | hz
  · simp (maxSteps := 10000000) only [go_sem, Try.f9, Nat.reduceEqDiff, Nat.reduceBEq, Int.reduceToNat, Nat.reducePow, Nat.reduceMod, Nat.reduceAdd, Nat.reduceSub, Nat.reduceMul, Nat.reduceDiv, Nat.reduceLeDiff, Int.reduceAdd, Int.reduceSub, Int.reduceMul, Int.reduceDiv, Int.reduceMod, Int.reduceLE, Int.reduceLT, Int.reduceNeg, Int.reduceEq, Int.cast_ofNat_Int, Int.natCast_zero, List.contains_cons, List.contains_nil, Bool.or_false, Bool.or_true, Bool.true_or, reduceCtorEq, or_false, or_true, false_or, true_or, and_false, false_and, ne_eq, List.take_zero, List.take_succ_cons, List.take_nil, List.drop_zero, List.drop_succ_cons, List.drop_nil, decide_true, decide_false, c_gfp_Deg, c_gfp_Mul, c_gfp_Same, c_law03_awake, c_gfdiv_Mod, c_gfdiv_Gcd, hA, hB, hC, hz, bl_zero]
    clear hw ha hb hc hA hB hC
    rw [hz] at z3
    repeat' (first | with_reducible refine And.intro ?_ ?_ | with_reducible intro _)
    all_goals first | omega | trivial
  · have f1 : rm A (gd A B) = 0 := (rm_zero_iff hz).2 (gd_dv_left A B)
    have f2 : rm B (gd A B) = 0 := (rm_zero_iff hz).2 (gd_dv_right A B)
    simp (maxSteps := 10000000) only [go_sem, Try.f9, Nat.reduceEqDiff, Nat.reduceBEq, Int.reduceToNat, Nat.reducePow, Nat.reduceMod, Nat.reduceAdd, Nat.reduceSub, Nat.reduceMul, Nat.reduceDiv, Nat.reduceLeDiff, Int.reduceAdd, Int.reduceSub, Int.reduceMul, Int.reduceDiv, Int.reduceMod, Int.reduceLE, Int.reduceLT, Int.reduceNeg, Int.reduceEq, Int.cast_ofNat_Int, Int.natCast_zero, List.contains_cons, List.contains_nil, Bool.or_false, Bool.or_true, Bool.true_or, reduceCtorEq, or_false, or_true, false_or, true_or, and_false, false_and, ne_eq, List.take_zero, List.take_succ_cons, List.take_nil, List.drop_zero, List.drop_succ_cons, List.drop_nil, decide_true, decide_false, c_gfp_Deg, c_gfp_Mul, c_gfp_Same, c_law03_awake, c_gfdiv_Mod, c_gfdiv_Gcd, hA, hB, hC, hz, f1, f2, bl_zero]
    clear hw ha hb hc hA hB hC f1 f2
    repeat' (first | with_reducible refine And.intro ?_ ?_ | with_reducible intro _)
    all_goals first | omega | trivial | skip
    all_goals trace_state
    all_goals sorry
end Go.Proofs.Ytbngamllllbfpaa.I
