/- MasseyNone, MasseyTells, as contracts. -/
import Derived.Test.YtbngamllllbfpaaLaw05
import Derived.Test.YtbngamllllbfpaaBm3
namespace Go.Proofs.Ytbngamllllbfpaa.I
open Go
set_option maxRecDepth 10000
set_option linter.unusedSimpArgs false
set_option linter.unusedVariables false

def c_law05_MasseyNone : Cn := fn3 tU tU tBs (fun _ _ _ => True) fun _ _ _ => .b true
noncomputable def cx_law05_MasseyNone : Cx := { T := T, cs := [(24, c_gfp_Deg), (31, c_gfp_Mul), (43, c_law05_awake), (47, c_massey_Rule), (51, c_massey_Length)], sch := [], ob := [], qs := [24, 31, 43, 47, 51] }
@[go_sem] theorem cx_law05_MasseyNone_md : cx_law05_MasseyNone.md = 0 := rfl
@[go_sem] theorem cx_law05_MasseyNone_T : cx_law05_MasseyNone.T = T := rfl
@[go_sem] theorem cx_law05_MasseyNone_cs : cx_law05_MasseyNone.cs = [(24, c_gfp_Deg), (31, c_gfp_Mul), (43, c_law05_awake), (47, c_massey_Rule), (51, c_massey_Length)] := rfl
@[go_sem] theorem cx_law05_MasseyNone_ob (d : Nat) : cx_law05_MasseyNone.ob.contains d = false := rfl
theorem cok_law05_MasseyNone : COk Try.prog cx_law05_MasseyNone := cok_of rfl (.cons ok_gfp_Deg (.cons ok_gfp_Mul (.cons ok_law05_awake (.cons ok_massey_Rule (.cons ok_massey_Length (.nil)))))) (.cons (fun _ => fn1_quiet) (.cons (fun _ => fn2_quiet) (.cons (fun _ => fn0_quiet) (.cons (fun _ => fn2_quiet) (.cons (fun _ => fn1_quiet) (.nil))))))
set_option maxHeartbeats 4000000 in
theorem ok_law05_MasseyNone : Ok Try.prog 13 c_law05_MasseyNone := by
  refine ok_fn3 cok_law05_MasseyNone mixed Try.func13 rfl (by kernel_rfl) (by kernel_rfl) ?_
  intro p q l om hw _
  have h1 := bl_pv (wf_u ⟨hw.1, trivial⟩).2
  have h2 := bl_pv (wf_u ⟨hw.2.1, trivial⟩).2
  obtain ⟨P, hP⟩ : ∃ A, pv p = A := ⟨_, rfl⟩
  obtain ⟨Q, hQ⟩ : ∃ A, pv q = A := ⟨_, rfl⟩
  rw [hP] at h1
  rw [hQ] at h2
  have b0 := bl_cm_le P Q
  have z1 := bl_eq_zero (x := Q)
  rcases Decidable.em (Ru l P) with hr | hr
  · have h3 := lc_least hr
    have h4 := bl_pos.2 hr.1
    rcases Decidable.em (Q = 0) with hz | hz
    · have e1 : ((bl 0 : Int) - 1 < 0) = True := eq_true (by rw [bl_zero]; omega)
      simp (maxSteps := 10000000) only [go_sem, Try.f13, Nat.reduceEqDiff, Nat.reduceBEq, Int.reduceToNat, Nat.reducePow, Nat.reduceMod, Nat.reduceAdd, Nat.reduceSub, Nat.reduceMul, Nat.reduceDiv, Nat.reduceLeDiff, Int.reduceAdd, Int.reduceSub, Int.reduceMul, Int.reduceDiv, Int.reduceMod, Int.reduceLE, Int.reduceLT, Int.reduceNeg, Int.reduceEq, Int.cast_ofNat_Int, Int.natCast_zero, List.contains_cons, List.contains_nil, Bool.or_false, Bool.or_true, Bool.true_or, reduceCtorEq, or_false, or_true, false_or, true_or, and_false, false_and, ne_eq, List.take_zero, List.take_succ_cons, List.take_nil, List.drop_zero, List.drop_succ_cons, List.drop_nil, decide_true, decide_false, c_gfp_Deg, c_gfp_Mul, c_law05_awake, c_massey_Rule, c_massey_Length, hP, hQ, hr, hz, e1, Nat.reduceLT]
      clear hw hP hQ
      repeat' (first | with_reducible refine And.intro ?_ ?_ | with_reducible intro _)
      all_goals first | omega | trivial | (split <;> omega)
    · have h5 := hr.mul hz
      have e1 : ((bl Q : Int) - 1 < 0) = False := eq_false (by omega)
      simp (maxSteps := 10000000) only [go_sem, Try.f13, Nat.reduceEqDiff, Nat.reduceBEq, Int.reduceToNat, Nat.reducePow, Nat.reduceMod, Nat.reduceAdd, Nat.reduceSub, Nat.reduceMul, Nat.reduceDiv, Nat.reduceLeDiff, Int.reduceAdd, Int.reduceSub, Int.reduceMul, Int.reduceDiv, Int.reduceMod, Int.reduceLE, Int.reduceLT, Int.reduceNeg, Int.reduceEq, Int.cast_ofNat_Int, Int.natCast_zero, List.contains_cons, List.contains_nil, Bool.or_false, Bool.or_true, Bool.true_or, reduceCtorEq, or_false, or_true, false_or, true_or, and_false, false_and, ne_eq, List.take_zero, List.take_succ_cons, List.take_nil, List.drop_zero, List.drop_succ_cons, List.drop_nil, decide_true, decide_false, c_gfp_Deg, c_gfp_Mul, c_law05_awake, c_massey_Rule, c_massey_Length, hP, hQ, hr, h5, e1, Nat.reduceLT]
      clear hw hP hQ
      repeat' (first | with_reducible refine And.intro ?_ ?_ | with_reducible intro _)
      all_goals first | omega | trivial | (split <;> omega)
  · simp (maxSteps := 10000000) only [go_sem, Try.f13, Nat.reduceEqDiff, Nat.reduceBEq, Int.reduceToNat, Nat.reducePow, Nat.reduceMod, Nat.reduceAdd, Nat.reduceSub, Nat.reduceMul, Nat.reduceDiv, Nat.reduceLeDiff, Int.reduceAdd, Int.reduceSub, Int.reduceMul, Int.reduceDiv, Int.reduceMod, Int.reduceLE, Int.reduceLT, Int.reduceNeg, Int.reduceEq, Int.cast_ofNat_Int, Int.natCast_zero, List.contains_cons, List.contains_nil, Bool.or_false, Bool.or_true, Bool.true_or, reduceCtorEq, or_false, or_true, false_or, true_or, and_false, false_and, ne_eq, List.take_zero, List.take_succ_cons, List.take_nil, List.drop_zero, List.drop_succ_cons, List.drop_nil, decide_true, decide_false, c_gfp_Deg, c_gfp_Mul, c_law05_awake, c_massey_Rule, c_massey_Length, hP, hQ, hr, Nat.reduceLT]
    clear hw hP hQ
    repeat' (first | with_reducible refine And.intro ?_ ?_ | with_reducible intro _)
    all_goals first | omega | trivial | (split <;> omega)

def c_law05_MasseyTells : Cn := fn3 tU tBs tZ (fun _ _ _ => True) fun _ _ _ => .b true
noncomputable def cx_law05_MasseyTells : Cx := { T := T, cs := [(17, c_ref02_Parts), (20, c_ref02_Words), (22, c_ref02_Of), (43, c_law05_awake), (44, c_massey_Goes), (45, c_ref05_Same), (46, c_ref05_Goes), (47, c_massey_Rule), (48, c_ref05_Rule), (49, c_ref05_Length), (50, c_massey_Least), (51, c_massey_Length), (52, c_ref05_Least)], sch := [], ob := [], qs := [17, 20, 22, 43, 44, 45, 46, 47, 48, 49, 50, 51, 52] }
@[go_sem] theorem cx_law05_MasseyTells_md : cx_law05_MasseyTells.md = 0 := rfl
@[go_sem] theorem cx_law05_MasseyTells_T : cx_law05_MasseyTells.T = T := rfl
@[go_sem] theorem cx_law05_MasseyTells_cs : cx_law05_MasseyTells.cs = [(17, c_ref02_Parts), (20, c_ref02_Words), (22, c_ref02_Of), (43, c_law05_awake), (44, c_massey_Goes), (45, c_ref05_Same), (46, c_ref05_Goes), (47, c_massey_Rule), (48, c_ref05_Rule), (49, c_ref05_Length), (50, c_massey_Least), (51, c_massey_Length), (52, c_ref05_Least)] := rfl
@[go_sem] theorem cx_law05_MasseyTells_ob (d : Nat) : cx_law05_MasseyTells.ob.contains d = false := rfl
theorem cok_law05_MasseyTells : COk Try.prog cx_law05_MasseyTells := cok_of rfl (.cons ok_ref02_Parts (.cons ok_ref02_Words (.cons ok_ref02_Of (.cons ok_law05_awake (.cons ok_massey_Goes (.cons ok_ref05_Same (.cons ok_ref05_Goes (.cons ok_massey_Rule (.cons ok_ref05_Rule (.cons ok_ref05_Length (.cons ok_massey_Least (.cons ok_massey_Length (.cons ok_ref05_Least (.nil)))))))))))))) (.cons (fun _ => fn1_quiet) (.cons (fun _ => fn2_quiet) (.cons (fun _ => fn1_quiet) (.cons (fun _ => fn0_quiet) (.cons (fun _ => fn3j_quiet) (.cons (fun _ => fn2_quiet) (.cons (fun _ => fn3_quiet) (.cons (fun _ => fn2_quiet) (.cons (fun _ => fn2_quiet) (.cons (fun _ => fn1_quiet) (.cons (fun _ => fn1i_quiet) (.cons (fun _ => fn1_quiet) (.cons (fun _ => fn1_quiet) (.nil))))))))))))))
set_option maxHeartbeats 4000000 in
theorem ok_law05_MasseyTells : Ok Try.prog 11 c_law05_MasseyTells := by
  refine ok_fn3 cok_law05_MasseyTells mixed Try.func11 rfl (by kernel_rfl) (by kernel_rfl) ?_
  intro p l m om hw _
  have h1 := bl_pv (wf_u ⟨hw.1, trivial⟩).2
  have hp0 := (wf_u ⟨hw.1, trivial⟩).1
  have hl0 := wf_bs ⟨hw.2.1, trivial⟩
  rw [longest_eq] at hl0 hp0
  obtain ⟨P, hP⟩ : ∃ A, pv p = A := ⟨_, rfl⟩
  rw [hP] at h1
  rcases Decidable.em ((5 : Int) < p.length) with c1 | c1
  · simp (maxSteps := 10000000) only [go_sem, Try.f11, Nat.reduceEqDiff, Nat.reduceBEq, Int.reduceToNat, Nat.reducePow, Nat.reduceMod, Nat.reduceAdd, Nat.reduceSub, Nat.reduceMul, Nat.reduceDiv, Nat.reduceLeDiff, Int.reduceAdd, Int.reduceSub, Int.reduceMul, Int.reduceDiv, Int.reduceMod, Int.reduceLE, Int.reduceLT, Int.reduceNeg, Int.reduceEq, Int.cast_ofNat_Int, Int.natCast_zero, List.contains_cons, List.contains_nil, Bool.or_false, Bool.or_true, Bool.true_or, reduceCtorEq, or_false, or_true, false_or, true_or, and_false, false_and, ne_eq, List.take_zero, List.take_succ_cons, List.take_nil, List.drop_zero, List.drop_succ_cons, List.drop_nil, decide_true, decide_false, c_ref02_Parts, c_ref02_Words, c_ref02_Of, c_law05_awake, c_massey_Goes, c_ref05_Same, c_ref05_Goes, c_massey_Rule, c_ref05_Rule, c_ref05_Length, c_massey_Least, c_massey_Length, c_ref05_Least, hP, c1, Nat.reduceLT]
  rcases Decidable.em ((300 : Int) < l.length) with c2 | c2
  · simp (maxSteps := 10000000) only [go_sem, Try.f11, Nat.reduceEqDiff, Nat.reduceBEq, Int.reduceToNat, Nat.reducePow, Nat.reduceMod, Nat.reduceAdd, Nat.reduceSub, Nat.reduceMul, Nat.reduceDiv, Nat.reduceLeDiff, Int.reduceAdd, Int.reduceSub, Int.reduceMul, Int.reduceDiv, Int.reduceMod, Int.reduceLE, Int.reduceLT, Int.reduceNeg, Int.reduceEq, Int.cast_ofNat_Int, Int.natCast_zero, List.contains_cons, List.contains_nil, Bool.or_false, Bool.or_true, Bool.true_or, reduceCtorEq, or_false, or_true, false_or, true_or, and_false, false_and, ne_eq, List.take_zero, List.take_succ_cons, List.take_nil, List.drop_zero, List.drop_succ_cons, List.drop_nil, decide_true, decide_false, c_ref02_Parts, c_ref02_Words, c_ref02_Of, c_law05_awake, c_massey_Goes, c_ref05_Same, c_ref05_Goes, c_massey_Rule, c_ref05_Rule, c_ref05_Length, c_massey_Least, c_massey_Length, c_ref05_Least, hP, c1, c2, Nat.reduceLT]
  have b1 := lc_le l
  have b2 := bl_lst l
  have T (x : Prop) : x → x = True := eq_true
  have F (x : Prop) : ¬ x → x = False := eq_false
  have cs : ((bl P < 2) = True ∧ True = True ∧ True = True ∧ True = True) ∨ ((bl P < 2) = False ∧ (l.length < bl P - 1) = True ∧ True = True ∧ True = True) ∨ ((bl P < 2) = False ∧ (l.length < bl P - 1) = False ∧ (m < 0) = True ∧ True = True) ∨
      ((bl P < 2) = False ∧ (l.length < bl P - 1) = False ∧ (m < 0) = False ∧ (2048 < m) = True) ∨ ((bl P < 2) = False ∧ (l.length < bl P - 1) = False ∧ (m < 0) = False ∧ (2048 < m) = False) := by
    by_cases x0 : bl P < 2
    · exact .inl ⟨T _ x0, rfl, rfl, rfl⟩
    by_cases x1 : l.length < bl P - 1
    · exact .inr (.inl ⟨F _ x0, T _ x1, rfl, rfl⟩)
    by_cases x2 : m < 0
    · exact .inr (.inr (.inl ⟨F _ x0, F _ x1, T _ x2, rfl⟩))
    by_cases x3 : 2048 < m
    · exact .inr (.inr (.inr (.inl ⟨F _ x0, F _ x1, F _ x2, T _ x3⟩)))
    · exact .inr (.inr (.inr (.inr ⟨F _ x0, F _ x1, F _ x2, F _ x3⟩)))
  have ac : ((12 < (l.length : Int)) = True ∧ True = True ∧ True = True ∧ 12 < l.length) ∨ ((12 < (l.length : Int)) = False ∧ (2 * lc l ≤ l.length) = True ∧ (2 * (lc l : Int) ≤ l.length) = True ∧ l.length ≤ 12 ∧ 2 * lc l ≤ l.length) ∨ ((12 < (l.length : Int)) = False ∧ (2 * lc l ≤ l.length) = False ∧ (2 * (lc l : Int) ≤ l.length) = False ∧ l.length ≤ 12 ∧ ¬ 2 * lc l ≤ l.length) := by
    by_cases x0 : 12 < (l.length : Int)
    · exact .inl ⟨T _ x0, rfl, rfl, by omega⟩
    by_cases x1 : 2 * lc l ≤ l.length
    · exact .inr (.inl ⟨F _ x0, T _ x1, T _ (by omega), by omega, x1⟩)
    · exact .inr (.inr ⟨F _ x0, F _ x1, F _ (by omega), by omega, x1⟩)
  have i0 : ((bl P : Int) < 2) = (bl P < 2) := propext (by omega)
  have i1 : ((bl P : Int) - 1 < 1) = (bl P < 2) := propext (by omega)
  have i2 : bl P < 2 ∨ ((l.length : Int) < (bl P : Int) - 1) = (l.length < bl P - 1) := by
    by_cases x0 : bl P < 2
    · exact .inl x0
    · exact .inr (propext (by omega))
  have i3 : (l.length ≤ 2048) = True := T _ (by omega)
  clear T F
  rcases cs with ⟨q0, q1, q2, q3⟩ | cs
  · clear i2
    rcases ac with ⟨a1, a2, a3, a4⟩ | ⟨a1, a2, a3, a4⟩ | ⟨a1, a2, a3, a4⟩
    all_goals
      simp (maxSteps := 10000000) only [go_sem, Try.f11, Nat.reduceEqDiff, Nat.reduceBEq, Int.reduceToNat, Nat.reducePow, Nat.reduceMod, Nat.reduceAdd, Nat.reduceSub, Nat.reduceMul, Nat.reduceDiv, Nat.reduceLeDiff, Int.reduceAdd, Int.reduceSub, Int.reduceMul, Int.reduceDiv, Int.reduceMod, Int.reduceLE, Int.reduceLT, Int.reduceNeg, Int.reduceEq, Int.cast_ofNat_Int, Int.natCast_zero, List.contains_cons, List.contains_nil, Bool.or_false, Bool.or_true, Bool.true_or, reduceCtorEq, or_false, or_true, false_or, true_or, and_false, false_and, ne_eq, List.take_zero, List.take_succ_cons, List.take_nil, List.drop_zero, List.drop_succ_cons, List.drop_nil, decide_true, decide_false, c_ref02_Parts, c_ref02_Words, c_ref02_Of, c_law05_awake, c_massey_Goes, c_ref05_Same, c_ref05_Goes, c_massey_Rule, c_ref05_Rule, c_ref05_Length, c_massey_Least, c_massey_Length, c_ref05_Least, hP, c1, c2, i0, i1, i3, q0, q1, q2, q3, a1, a2, a3, b2, Nat.reduceLT, bne_self_eq_false, if_true]
      have q0 := of_eq_true q0
      clear hw hP i0 i1 i3 q1 q2 q3 a1 a2 a3
      repeat' (first | with_reducible refine And.intro ?_ ?_ | with_reducible intro _)
      all_goals first | omega | trivial
  · rcases cs with ⟨q0, q1, q2, q3⟩ | ⟨q0, q1, q2, q3⟩ | ⟨q0, q1, q2, q3⟩ | ⟨q0, q1, q2, q3⟩
    all_goals have q0f := of_eq_false q0
    all_goals have i2 := i2.resolve_left q0f
    · rcases ac with ⟨a1, a2, a3, a4⟩ | ⟨a1, a2, a3, a4⟩ | ⟨a1, a2, a3, a4⟩
      all_goals
        simp (maxSteps := 10000000) only [go_sem, Try.f11, Nat.reduceEqDiff, Nat.reduceBEq, Int.reduceToNat, Nat.reducePow, Nat.reduceMod, Nat.reduceAdd, Nat.reduceSub, Nat.reduceMul, Nat.reduceDiv, Nat.reduceLeDiff, Int.reduceAdd, Int.reduceSub, Int.reduceMul, Int.reduceDiv, Int.reduceMod, Int.reduceLE, Int.reduceLT, Int.reduceNeg, Int.reduceEq, Int.cast_ofNat_Int, Int.natCast_zero, List.contains_cons, List.contains_nil, Bool.or_false, Bool.or_true, Bool.true_or, reduceCtorEq, or_false, or_true, false_or, true_or, and_false, false_and, ne_eq, List.take_zero, List.take_succ_cons, List.take_nil, List.drop_zero, List.drop_succ_cons, List.drop_nil, decide_true, decide_false, c_ref02_Parts, c_ref02_Words, c_ref02_Of, c_law05_awake, c_massey_Goes, c_ref05_Same, c_ref05_Goes, c_massey_Rule, c_ref05_Rule, c_ref05_Length, c_massey_Least, c_massey_Length, c_ref05_Least, hP, c1, c2, i0, i1, i2, i3, q0, q1, q2, q3, a1, a2, a3, b2, Nat.reduceLT, bne_self_eq_false, if_true]
        have r1 := of_eq_true q1
        clear hw hP i0 i1 i2 i3 q0 q1 q2 q3 a1 a2 a3
        repeat' (first | with_reducible refine And.intro ?_ ?_ | with_reducible intro _)
        all_goals first | omega | trivial
    · rcases ac with ⟨a1, a2, a3, a4⟩ | ⟨a1, a2, a3, a4⟩ | ⟨a1, a2, a3, a4⟩
      all_goals
        simp (maxSteps := 10000000) only [go_sem, Try.f11, Nat.reduceEqDiff, Nat.reduceBEq, Int.reduceToNat, Nat.reducePow, Nat.reduceMod, Nat.reduceAdd, Nat.reduceSub, Nat.reduceMul, Nat.reduceDiv, Nat.reduceLeDiff, Int.reduceAdd, Int.reduceSub, Int.reduceMul, Int.reduceDiv, Int.reduceMod, Int.reduceLE, Int.reduceLT, Int.reduceNeg, Int.reduceEq, Int.cast_ofNat_Int, Int.natCast_zero, List.contains_cons, List.contains_nil, Bool.or_false, Bool.or_true, Bool.true_or, reduceCtorEq, or_false, or_true, false_or, true_or, and_false, false_and, ne_eq, List.take_zero, List.take_succ_cons, List.take_nil, List.drop_zero, List.drop_succ_cons, List.drop_nil, decide_true, decide_false, c_ref02_Parts, c_ref02_Words, c_ref02_Of, c_law05_awake, c_massey_Goes, c_ref05_Same, c_ref05_Goes, c_massey_Rule, c_ref05_Rule, c_ref05_Length, c_massey_Least, c_massey_Length, c_ref05_Least, hP, c1, c2, i0, i1, i2, i3, q0, q1, q2, q3, a1, a2, a3, b2, Nat.reduceLT, bne_self_eq_false, if_true]
        have r1 := of_eq_false q1
        have r2 := of_eq_true q2
        clear hw hP i0 i1 i2 i3 q0 q1 q2 q3 a1 a2 a3
        repeat' (first | with_reducible refine And.intro ?_ ?_ | with_reducible intro _)
        all_goals first | omega | trivial
    · rcases ac with ⟨a1, a2, a3, a4⟩ | ⟨a1, a2, a3, a4⟩ | ⟨a1, a2, a3, a4⟩
      all_goals
        simp (maxSteps := 10000000) only [go_sem, Try.f11, Nat.reduceEqDiff, Nat.reduceBEq, Int.reduceToNat, Nat.reducePow, Nat.reduceMod, Nat.reduceAdd, Nat.reduceSub, Nat.reduceMul, Nat.reduceDiv, Nat.reduceLeDiff, Int.reduceAdd, Int.reduceSub, Int.reduceMul, Int.reduceDiv, Int.reduceMod, Int.reduceLE, Int.reduceLT, Int.reduceNeg, Int.reduceEq, Int.cast_ofNat_Int, Int.natCast_zero, List.contains_cons, List.contains_nil, Bool.or_false, Bool.or_true, Bool.true_or, reduceCtorEq, or_false, or_true, false_or, true_or, and_false, false_and, ne_eq, List.take_zero, List.take_succ_cons, List.take_nil, List.drop_zero, List.drop_succ_cons, List.drop_nil, decide_true, decide_false, c_ref02_Parts, c_ref02_Words, c_ref02_Of, c_law05_awake, c_massey_Goes, c_ref05_Same, c_ref05_Goes, c_massey_Rule, c_ref05_Rule, c_ref05_Length, c_massey_Least, c_massey_Length, c_ref05_Least, hP, c1, c2, i0, i1, i2, i3, q0, q1, q2, q3, a1, a2, a3, b2, Nat.reduceLT, bne_self_eq_false, if_true]
        have r1 := of_eq_false q1
        have r2 := of_eq_false q2
        have r3 := of_eq_true q3
        clear hw hP i0 i1 i2 i3 q0 q1 q2 q3 a1 a2 a3
        repeat' (first | with_reducible refine And.intro ?_ ?_ | with_reducible intro _)
        all_goals first | omega | trivial
    · rcases ac with ⟨a1, a2, a3, a4⟩ | ⟨a1, a2, a3, a4⟩ | ⟨a1, a2, a3, a4⟩
      all_goals
        simp (maxSteps := 10000000) only [go_sem, Try.f11, Nat.reduceEqDiff, Nat.reduceBEq, Int.reduceToNat, Nat.reducePow, Nat.reduceMod, Nat.reduceAdd, Nat.reduceSub, Nat.reduceMul, Nat.reduceDiv, Nat.reduceLeDiff, Int.reduceAdd, Int.reduceSub, Int.reduceMul, Int.reduceDiv, Int.reduceMod, Int.reduceLE, Int.reduceLT, Int.reduceNeg, Int.reduceEq, Int.cast_ofNat_Int, Int.natCast_zero, List.contains_cons, List.contains_nil, Bool.or_false, Bool.or_true, Bool.true_or, reduceCtorEq, or_false, or_true, false_or, true_or, and_false, false_and, ne_eq, List.take_zero, List.take_succ_cons, List.take_nil, List.drop_zero, List.drop_succ_cons, List.drop_nil, decide_true, decide_false, c_ref02_Parts, c_ref02_Words, c_ref02_Of, c_law05_awake, c_massey_Goes, c_ref05_Same, c_ref05_Goes, c_massey_Rule, c_ref05_Rule, c_ref05_Length, c_massey_Least, c_massey_Length, c_ref05_Least, hP, c1, c2, i0, i1, i2, i3, q0, q1, q2, q3, a1, a2, a3, b2, Nat.reduceLT, bne_self_eq_false, if_true]
        have r1 := of_eq_false q1
        have r2 := of_eq_false q2
        have r3 := of_eq_false q3
        clear hw hP i0 i1 i2 i3 q0 q1 q2 q3 a1 a2 a3
        repeat' (first | with_reducible refine And.intro ?_ ?_ | with_reducible intro _)
        all_goals first | omega | trivial
end Go.Proofs.Ytbngamllllbfpaa.I
