/- GfpTells, as a contract. -/
import Derived.Test.YtbngamllllbfpaaLaw02
namespace Go.Proofs.Ytbngamllllbfpaa.I
open Go
set_option maxRecDepth 10000
set_option linter.unusedSimpArgs false
set_option linter.unusedVariables false

theorem bv_lit1 : bv [1] = 1 := rfl
theorem good_lit1 : good [1] = True := eq_true (by intro x hx; simp at hx; exact .inr hx)
theorem pv_words {m : Nat} (h : bl m ≤ 128) : pv [wdAt m 0, wdAt m 1] = m := pv_wds (n := 2) (by omega)
theorem pv_take1 {a : List Nat} (h : 0 < a.length) : pv (a.take 1) = a.getD 0 0 := by
  cases a with
  | nil => simp at h
  | cons x a => simp [pv]

theorem bl_shl_le (m n : Nat) : bl (m <<< n) ≤ bl m + n := by
  rcases Decidable.em (m = 0) with h | h
  · rw [h, Nat.zero_shiftLeft, bl_zero]; omega
  · rw [bl_shl h]; exact Nat.le_refl _
theorem tb_le (m : Nat) (i : Int) : 0 ≤ tb m i ∧ tb m i ≤ 1 := by unfold tb; split <;> omega

def c_law02_GfpTells : Cn := fn3 tU tU tZ (fun _ _ _ => True) fun _ _ _ => .b true
noncomputable def cx_law02_GfpTells : Cx := { T := T, cs := [(15, c_law02_awake), (16, c_law02_Large), (17, c_ref02_Parts), (18, c_ref02_Up), (19, c_gfp_Words), (20, c_ref02_Words), (21, c_gfp_Own), (22, c_ref02_Of), (23, c_ref02_Mul), (24, c_gfp_Deg), (25, c_gfp_Bit), (26, c_ref02_At), (27, c_gfp_X), (28, c_gfp_Add), (29, c_ref02_Add), (30, c_gfp_Up), (31, c_gfp_Mul), (32, c_gfp_Square), (33, c_gfp_Same)], sch := [(11, false, .take 0 (.take 1 (.take 2 (.take 3 (.take 4 (.take 5 (.alt 6 (.take 7 (.take 8 (.take 9 (.take 10 (.take 11 (.done)))))) .no))))))), (12, false, .take 0 (.take 1 (.take 4 (.take 5 (.take 7 (.take 8 (.alt 2 (.alt 3 (.alt 6 (.alt 9 (.alt 10 (.alt 11 (.alt 12 (.take 13 (.done)) .no) .no) .no) .no) .no) .no) .no)))))))], ob := [], qs := [15, 16, 17, 18, 19, 20, 21, 22, 23, 24, 25, 26, 27, 28, 29, 30, 31, 32, 33] }
@[go_sem] theorem cx_law02_GfpTells_T : cx_law02_GfpTells.T = T := rfl
@[go_sem] theorem cx_law02_GfpTells_cs : cx_law02_GfpTells.cs = [(15, c_law02_awake), (16, c_law02_Large), (17, c_ref02_Parts), (18, c_ref02_Up), (19, c_gfp_Words), (20, c_ref02_Words), (21, c_gfp_Own), (22, c_ref02_Of), (23, c_ref02_Mul), (24, c_gfp_Deg), (25, c_gfp_Bit), (26, c_ref02_At), (27, c_gfp_X), (28, c_gfp_Add), (29, c_ref02_Add), (30, c_gfp_Up), (31, c_gfp_Mul), (32, c_gfp_Square), (33, c_gfp_Same)] := rfl
@[go_sem] theorem cx_law02_GfpTells_sch : cx_law02_GfpTells.sch = [(11, false, .take 0 (.take 1 (.take 2 (.take 3 (.take 4 (.take 5 (.alt 6 (.take 7 (.take 8 (.take 9 (.take 10 (.take 11 (.done)))))) .no))))))), (12, false, .take 0 (.take 1 (.take 4 (.take 5 (.take 7 (.take 8 (.alt 2 (.alt 3 (.alt 6 (.alt 9 (.alt 10 (.alt 11 (.alt 12 (.take 13 (.done)) .no) .no) .no) .no) .no) .no) .no)))))))] := rfl
@[go_sem] theorem cx_law02_GfpTells_ob (d : Nat) : cx_law02_GfpTells.ob.contains d = false := rfl
theorem cok_law02_GfpTells : COk Try.prog cx_law02_GfpTells := cok_of rfl (.cons ok_law02_awake (.cons ok_law02_Large (.cons ok_ref02_Parts (.cons ok_ref02_Up (.cons ok_gfp_Words (.cons ok_ref02_Words (.cons ok_gfp_Own (.cons ok_ref02_Of (.cons ok_ref02_Mul (.cons ok_gfp_Deg (.cons ok_gfp_Bit (.cons ok_ref02_At (.cons ok_gfp_X (.cons ok_gfp_Add (.cons ok_ref02_Add (.cons ok_gfp_Up (.cons ok_gfp_Mul (.cons ok_gfp_Square (.cons ok_gfp_Same (.nil)))))))))))))))))))) (.cons (fun _ => fn0_quiet) (.cons (fun _ => fn1_quiet) (.cons (fun _ => fn1_quiet) (.cons (fun _ => fn2_quiet) (.cons (fun _ => fn2_quiet) (.cons (fun _ => fn2_quiet) (.cons (fun _ => fn1_quiet) (.cons (fun _ => fn1_quiet) (.cons (fun _ => fn2_quiet) (.cons (fun _ => fn1_quiet) (.cons (fun _ => fn2_quiet) (.cons (fun _ => fn2_quiet) (.cons (fun _ => fn1_quiet) (.cons (fun _ => fn2_quiet) (.cons (fun _ => fn2_quiet) (.cons (fun _ => fn2_quiet) (.cons (fun _ => fn2_quiet) (.cons (fun _ => fn1_quiet) (.cons (fun _ => fn2_quiet) (.nil))))))))))))))))))))
set_option maxHeartbeats 4000000 in
theorem ok_law02_GfpTells : Ok Try.prog 3 c_law02_GfpTells := by
  refine ok_fn3 cok_law02_GfpTells mixed Try.func3 rfl (by kernel_rfl) (by kernel_rfl) ?_
  intro a b n om hw _
  have ha := (wf_u ⟨hw.1, trivial⟩).2
  have hb := (wf_u ⟨hw.2.1, trivial⟩).2
  cases hL : ([a, b].any fun xs => decide (16 < xs.length)) with
  | true =>
    simp (maxSteps := 10000000) only [go_sem, Try.f3, Nat.reduceEqDiff, Nat.reduceBEq, Int.reduceToNat, Nat.reducePow, Nat.reduceMod, Nat.reduceAdd, Nat.reduceSub, Nat.reduceMul, Nat.reduceDiv, Nat.reduceLeDiff, Int.reduceAdd, Int.reduceSub, Int.reduceMul, Int.reduceDiv, Int.reduceMod, Int.reduceLE, Int.reduceLT, Int.reduceNeg, Int.reduceEq, Int.cast_ofNat_Int, Int.natCast_zero, List.contains_cons, List.contains_nil, Bool.or_false, Bool.or_true, Bool.true_or, reduceCtorEq, or_false, or_true, false_or, true_or, and_false, false_and, ne_eq, List.take_zero, List.take_succ_cons, List.take_nil, List.drop_zero, List.drop_succ_cons, List.drop_nil, decide_true, decide_false, c_law02_awake, c_law02_Large, c_ref02_Parts, c_ref02_Up, c_gfp_Words, c_ref02_Words, c_gfp_Own, c_ref02_Of, c_ref02_Mul, c_gfp_Deg, c_gfp_Bit, c_ref02_At, c_gfp_X, c_gfp_Add, c_ref02_Add, c_gfp_Up, c_gfp_Mul, c_gfp_Square, c_gfp_Same, hL]
    rfl
  | false =>
  have hla : a.length ≤ 16 ∧ b.length ≤ 16 := by simpa using hL
  obtain ⟨l1, l2⟩ := hla
  have h1 := bl_pv ha
  have h2 := bl_pv hb
  obtain ⟨A, hA⟩ : ∃ A, pv a = A := ⟨_, rfl⟩
  obtain ⟨B, hB⟩ : ∃ B, pv b = B := ⟨_, rfl⟩
  rw [hA] at h1
  rw [hB] at h2
  have c1 := bl_cm_le A B
  have c2 := bl_xor_le A B
  have c3 := bl_cm_le A A
  have c4 := bl_cm_le B B
  have t1 := tb_le A n
  have xa : a.getD 0 0 < 18446744073709551616 := by rw [getD_pv ha]; exact wdAt_lt _ _
  have xb : b.getD 0 0 < 18446744073709551616 := by rw [getD_pv hb]; exact wdAt_lt _ _
  obtain ⟨X, hX⟩ : ∃ X, a.getD 0 0 = X := ⟨_, rfl⟩
  obtain ⟨Y, hY⟩ : ∃ Y, b.getD 0 0 = Y := ⟨_, rfl⟩
  rw [hX] at xa
  rw [hY] at xb
  have xa1 := (bl_lt (k := 64)).2 xa
  have xb1 := (bl_lt (k := 64)).2 xb
  have c5 := bl_cm_le X Y
  have w0 := wdAt_lt (cm X Y) 0
  have w1 := wdAt_lt (cm X Y) 1
  have pw := pv_words (m := cm X Y) (by omega)
  have la : (a.take 1).length ≤ 1 := by rw [List.length_take]; omega
  have lb : (b.take 1).length ≤ 1 := by rw [List.length_take]; omega
  have pa : 0 < (a.length : Int) → pv (a.take 1) = X := fun h => by rw [pv_take1 (by omega), hX]
  have pb : 0 < (b.length : Int) → pv (b.take 1) = Y := fun h => by rw [pv_take1 (by omega), hY]
  have un : ¬ (0 ≤ n ∧ n ≤ 2048) → ∀ m, upP m n = 0 := fun h m => by unfold upP; rw [if_neg h]
  have up : 0 ≤ n ∧ n ≤ 2048 → ∀ m, upP m n = m <<< n.toNat := fun h m => by unfold upP; rw [if_pos h]
  rcases Decidable.em (0 < (a.length : Int)) with a0 | a0
  · rcases Decidable.em (0 < (b.length : Int)) with b0 | b0
    · have pa' := pa a0
      have pb' := pb b0
      rcases Decidable.em (0 ≤ n) with n0 | n0
      · rcases Decidable.em (n ≤ 2048) with n1 | n1
        · have u1 := up ⟨n0, n1⟩
          have s1 := bl_shl_le 1 n.toNat
          have s2 := bl_shl_le A n.toNat
          have s3 : bl 1 = 1 := rfl
          have s4 : n.toNat ≤ 2048 := by omega
          simp (maxSteps := 10000000) only [go_sem, Try.f3, Nat.reduceEqDiff, Nat.reduceBEq, Int.reduceToNat, Nat.reducePow, Nat.reduceMod, Nat.reduceAdd, Nat.reduceSub, Nat.reduceMul, Nat.reduceDiv, Nat.reduceLeDiff, Int.reduceAdd, Int.reduceSub, Int.reduceMul, Int.reduceDiv, Int.reduceMod, Int.reduceLE, Int.reduceLT, Int.reduceNeg, Int.reduceEq, Int.cast_ofNat_Int, Int.natCast_zero, List.contains_cons, List.contains_nil, Bool.or_false, Bool.or_true, Bool.true_or, reduceCtorEq, or_false, or_true, false_or, true_or, and_false, false_and, ne_eq, List.take_zero, List.take_succ_cons, List.take_nil, List.drop_zero, List.drop_succ_cons, List.drop_nil, decide_true, decide_false, c_law02_awake, c_law02_Large, c_ref02_Parts, c_ref02_Up, c_gfp_Words, c_ref02_Words, c_gfp_Own, c_ref02_Of, c_ref02_Mul, c_gfp_Deg, c_gfp_Bit, c_ref02_At, c_gfp_X, c_gfp_Add, c_ref02_Add, c_gfp_Up, c_gfp_Mul, c_gfp_Square, c_gfp_Same, hL, bv_lit1, good_lit1, hA, hB, hX, hY, n0, n1, u1, a0, b0, pa', pb', pw]
          clear hw ha hb hA hB hL hX hY pa pb un up u1
          repeat' (first | with_reducible refine And.intro ?_ ?_ | with_reducible intro _)
          all_goals first | omega | trivial | rfl
        · have u1 := un (by omega)
          simp (maxSteps := 10000000) only [go_sem, Try.f3, Nat.reduceEqDiff, Nat.reduceBEq, Int.reduceToNat, Nat.reducePow, Nat.reduceMod, Nat.reduceAdd, Nat.reduceSub, Nat.reduceMul, Nat.reduceDiv, Nat.reduceLeDiff, Int.reduceAdd, Int.reduceSub, Int.reduceMul, Int.reduceDiv, Int.reduceMod, Int.reduceLE, Int.reduceLT, Int.reduceNeg, Int.reduceEq, Int.cast_ofNat_Int, Int.natCast_zero, List.contains_cons, List.contains_nil, Bool.or_false, Bool.or_true, Bool.true_or, reduceCtorEq, or_false, or_true, false_or, true_or, and_false, false_and, ne_eq, List.take_zero, List.take_succ_cons, List.take_nil, List.drop_zero, List.drop_succ_cons, List.drop_nil, decide_true, decide_false, c_law02_awake, c_law02_Large, c_ref02_Parts, c_ref02_Up, c_gfp_Words, c_ref02_Words, c_gfp_Own, c_ref02_Of, c_ref02_Mul, c_gfp_Deg, c_gfp_Bit, c_ref02_At, c_gfp_X, c_gfp_Add, c_ref02_Add, c_gfp_Up, c_gfp_Mul, c_gfp_Square, c_gfp_Same, hL, bv_lit1, good_lit1, hA, hB, hX, hY, n0, n1, u1, a0, b0, pa', pb', pw]
          clear hw ha hb hA hB hL hX hY pa pb un up u1
          repeat' (first | with_reducible refine And.intro ?_ ?_ | with_reducible intro _)
          all_goals first | omega | trivial | rfl
      · have u1 := un (by omega)
        simp (maxSteps := 10000000) only [go_sem, Try.f3, Nat.reduceEqDiff, Nat.reduceBEq, Int.reduceToNat, Nat.reducePow, Nat.reduceMod, Nat.reduceAdd, Nat.reduceSub, Nat.reduceMul, Nat.reduceDiv, Nat.reduceLeDiff, Int.reduceAdd, Int.reduceSub, Int.reduceMul, Int.reduceDiv, Int.reduceMod, Int.reduceLE, Int.reduceLT, Int.reduceNeg, Int.reduceEq, Int.cast_ofNat_Int, Int.natCast_zero, List.contains_cons, List.contains_nil, Bool.or_false, Bool.or_true, Bool.true_or, reduceCtorEq, or_false, or_true, false_or, true_or, and_false, false_and, ne_eq, List.take_zero, List.take_succ_cons, List.take_nil, List.drop_zero, List.drop_succ_cons, List.drop_nil, decide_true, decide_false, c_law02_awake, c_law02_Large, c_ref02_Parts, c_ref02_Up, c_gfp_Words, c_ref02_Words, c_gfp_Own, c_ref02_Of, c_ref02_Mul, c_gfp_Deg, c_gfp_Bit, c_ref02_At, c_gfp_X, c_gfp_Add, c_ref02_Add, c_gfp_Up, c_gfp_Mul, c_gfp_Square, c_gfp_Same, hL, bv_lit1, good_lit1, hA, hB, hX, hY, n0, u1, a0, b0, pa', pb', pw]
        clear hw ha hb hA hB hL hX hY pa pb un up u1
        repeat' (first | with_reducible refine And.intro ?_ ?_ | with_reducible intro _)
        all_goals first | omega | trivial | rfl
    · rcases Decidable.em (0 ≤ n) with n0 | n0
      · rcases Decidable.em (n ≤ 2048) with n1 | n1
        · have u1 := up ⟨n0, n1⟩
          have s1 := bl_shl_le 1 n.toNat
          have s2 := bl_shl_le A n.toNat
          have s3 : bl 1 = 1 := rfl
          have s4 : n.toNat ≤ 2048 := by omega
          simp (maxSteps := 10000000) only [go_sem, Try.f3, Nat.reduceEqDiff, Nat.reduceBEq, Int.reduceToNat, Nat.reducePow, Nat.reduceMod, Nat.reduceAdd, Nat.reduceSub, Nat.reduceMul, Nat.reduceDiv, Nat.reduceLeDiff, Int.reduceAdd, Int.reduceSub, Int.reduceMul, Int.reduceDiv, Int.reduceMod, Int.reduceLE, Int.reduceLT, Int.reduceNeg, Int.reduceEq, Int.cast_ofNat_Int, Int.natCast_zero, List.contains_cons, List.contains_nil, Bool.or_false, Bool.or_true, Bool.true_or, reduceCtorEq, or_false, or_true, false_or, true_or, and_false, false_and, ne_eq, List.take_zero, List.take_succ_cons, List.take_nil, List.drop_zero, List.drop_succ_cons, List.drop_nil, decide_true, decide_false, c_law02_awake, c_law02_Large, c_ref02_Parts, c_ref02_Up, c_gfp_Words, c_ref02_Words, c_gfp_Own, c_ref02_Of, c_ref02_Mul, c_gfp_Deg, c_gfp_Bit, c_ref02_At, c_gfp_X, c_gfp_Add, c_ref02_Add, c_gfp_Up, c_gfp_Mul, c_gfp_Square, c_gfp_Same, hL, bv_lit1, good_lit1, hA, hB, hX, hY, n0, n1, u1, a0, b0]
          clear hw ha hb hA hB hL hX hY pa pb un up u1
          repeat' (first | with_reducible refine And.intro ?_ ?_ | with_reducible intro _)
          all_goals first | omega | trivial | rfl
        · have u1 := un (by omega)
          simp (maxSteps := 10000000) only [go_sem, Try.f3, Nat.reduceEqDiff, Nat.reduceBEq, Int.reduceToNat, Nat.reducePow, Nat.reduceMod, Nat.reduceAdd, Nat.reduceSub, Nat.reduceMul, Nat.reduceDiv, Nat.reduceLeDiff, Int.reduceAdd, Int.reduceSub, Int.reduceMul, Int.reduceDiv, Int.reduceMod, Int.reduceLE, Int.reduceLT, Int.reduceNeg, Int.reduceEq, Int.cast_ofNat_Int, Int.natCast_zero, List.contains_cons, List.contains_nil, Bool.or_false, Bool.or_true, Bool.true_or, reduceCtorEq, or_false, or_true, false_or, true_or, and_false, false_and, ne_eq, List.take_zero, List.take_succ_cons, List.take_nil, List.drop_zero, List.drop_succ_cons, List.drop_nil, decide_true, decide_false, c_law02_awake, c_law02_Large, c_ref02_Parts, c_ref02_Up, c_gfp_Words, c_ref02_Words, c_gfp_Own, c_ref02_Of, c_ref02_Mul, c_gfp_Deg, c_gfp_Bit, c_ref02_At, c_gfp_X, c_gfp_Add, c_ref02_Add, c_gfp_Up, c_gfp_Mul, c_gfp_Square, c_gfp_Same, hL, bv_lit1, good_lit1, hA, hB, hX, hY, n0, n1, u1, a0, b0]
          clear hw ha hb hA hB hL hX hY pa pb un up u1
          repeat' (first | with_reducible refine And.intro ?_ ?_ | with_reducible intro _)
          all_goals first | omega | trivial | rfl
      · have u1 := un (by omega)
        simp (maxSteps := 10000000) only [go_sem, Try.f3, Nat.reduceEqDiff, Nat.reduceBEq, Int.reduceToNat, Nat.reducePow, Nat.reduceMod, Nat.reduceAdd, Nat.reduceSub, Nat.reduceMul, Nat.reduceDiv, Nat.reduceLeDiff, Int.reduceAdd, Int.reduceSub, Int.reduceMul, Int.reduceDiv, Int.reduceMod, Int.reduceLE, Int.reduceLT, Int.reduceNeg, Int.reduceEq, Int.cast_ofNat_Int, Int.natCast_zero, List.contains_cons, List.contains_nil, Bool.or_false, Bool.or_true, Bool.true_or, reduceCtorEq, or_false, or_true, false_or, true_or, and_false, false_and, ne_eq, List.take_zero, List.take_succ_cons, List.take_nil, List.drop_zero, List.drop_succ_cons, List.drop_nil, decide_true, decide_false, c_law02_awake, c_law02_Large, c_ref02_Parts, c_ref02_Up, c_gfp_Words, c_ref02_Words, c_gfp_Own, c_ref02_Of, c_ref02_Mul, c_gfp_Deg, c_gfp_Bit, c_ref02_At, c_gfp_X, c_gfp_Add, c_ref02_Add, c_gfp_Up, c_gfp_Mul, c_gfp_Square, c_gfp_Same, hL, bv_lit1, good_lit1, hA, hB, hX, hY, n0, u1, a0, b0]
        clear hw ha hb hA hB hL hX hY pa pb un up u1
        repeat' (first | with_reducible refine And.intro ?_ ?_ | with_reducible intro _)
        all_goals first | omega | trivial | rfl
  · rcases Decidable.em (0 ≤ n) with n0 | n0
    · rcases Decidable.em (n ≤ 2048) with n1 | n1
      · have u1 := up ⟨n0, n1⟩
        have s1 := bl_shl_le 1 n.toNat
        have s2 := bl_shl_le A n.toNat
        have s3 : bl 1 = 1 := rfl
        have s4 : n.toNat ≤ 2048 := by omega
        simp (maxSteps := 10000000) only [go_sem, Try.f3, Nat.reduceEqDiff, Nat.reduceBEq, Int.reduceToNat, Nat.reducePow, Nat.reduceMod, Nat.reduceAdd, Nat.reduceSub, Nat.reduceMul, Nat.reduceDiv, Nat.reduceLeDiff, Int.reduceAdd, Int.reduceSub, Int.reduceMul, Int.reduceDiv, Int.reduceMod, Int.reduceLE, Int.reduceLT, Int.reduceNeg, Int.reduceEq, Int.cast_ofNat_Int, Int.natCast_zero, List.contains_cons, List.contains_nil, Bool.or_false, Bool.or_true, Bool.true_or, reduceCtorEq, or_false, or_true, false_or, true_or, and_false, false_and, ne_eq, List.take_zero, List.take_succ_cons, List.take_nil, List.drop_zero, List.drop_succ_cons, List.drop_nil, decide_true, decide_false, c_law02_awake, c_law02_Large, c_ref02_Parts, c_ref02_Up, c_gfp_Words, c_ref02_Words, c_gfp_Own, c_ref02_Of, c_ref02_Mul, c_gfp_Deg, c_gfp_Bit, c_ref02_At, c_gfp_X, c_gfp_Add, c_ref02_Add, c_gfp_Up, c_gfp_Mul, c_gfp_Square, c_gfp_Same, hL, bv_lit1, good_lit1, hA, hB, hX, hY, n0, n1, u1, a0]
        clear hw ha hb hA hB hL hX hY pa pb un up u1
        repeat' (first | with_reducible refine And.intro ?_ ?_ | with_reducible intro _)
        all_goals first | omega | trivial | rfl
      · have u1 := un (by omega)
        simp (maxSteps := 10000000) only [go_sem, Try.f3, Nat.reduceEqDiff, Nat.reduceBEq, Int.reduceToNat, Nat.reducePow, Nat.reduceMod, Nat.reduceAdd, Nat.reduceSub, Nat.reduceMul, Nat.reduceDiv, Nat.reduceLeDiff, Int.reduceAdd, Int.reduceSub, Int.reduceMul, Int.reduceDiv, Int.reduceMod, Int.reduceLE, Int.reduceLT, Int.reduceNeg, Int.reduceEq, Int.cast_ofNat_Int, Int.natCast_zero, List.contains_cons, List.contains_nil, Bool.or_false, Bool.or_true, Bool.true_or, reduceCtorEq, or_false, or_true, false_or, true_or, and_false, false_and, ne_eq, List.take_zero, List.take_succ_cons, List.take_nil, List.drop_zero, List.drop_succ_cons, List.drop_nil, decide_true, decide_false, c_law02_awake, c_law02_Large, c_ref02_Parts, c_ref02_Up, c_gfp_Words, c_ref02_Words, c_gfp_Own, c_ref02_Of, c_ref02_Mul, c_gfp_Deg, c_gfp_Bit, c_ref02_At, c_gfp_X, c_gfp_Add, c_ref02_Add, c_gfp_Up, c_gfp_Mul, c_gfp_Square, c_gfp_Same, hL, bv_lit1, good_lit1, hA, hB, hX, hY, n0, n1, u1, a0]
        clear hw ha hb hA hB hL hX hY pa pb un up u1
        repeat' (first | with_reducible refine And.intro ?_ ?_ | with_reducible intro _)
        all_goals first | omega | trivial | rfl
    · have u1 := un (by omega)
      simp (maxSteps := 10000000) only [go_sem, Try.f3, Nat.reduceEqDiff, Nat.reduceBEq, Int.reduceToNat, Nat.reducePow, Nat.reduceMod, Nat.reduceAdd, Nat.reduceSub, Nat.reduceMul, Nat.reduceDiv, Nat.reduceLeDiff, Int.reduceAdd, Int.reduceSub, Int.reduceMul, Int.reduceDiv, Int.reduceMod, Int.reduceLE, Int.reduceLT, Int.reduceNeg, Int.reduceEq, Int.cast_ofNat_Int, Int.natCast_zero, List.contains_cons, List.contains_nil, Bool.or_false, Bool.or_true, Bool.true_or, reduceCtorEq, or_false, or_true, false_or, true_or, and_false, false_and, ne_eq, List.take_zero, List.take_succ_cons, List.take_nil, List.drop_zero, List.drop_succ_cons, List.drop_nil, decide_true, decide_false, c_law02_awake, c_law02_Large, c_ref02_Parts, c_ref02_Up, c_gfp_Words, c_ref02_Words, c_gfp_Own, c_ref02_Of, c_ref02_Mul, c_gfp_Deg, c_gfp_Bit, c_ref02_At, c_gfp_X, c_gfp_Add, c_ref02_Add, c_gfp_Up, c_gfp_Mul, c_gfp_Square, c_gfp_Same, hL, bv_lit1, good_lit1, hA, hB, hX, hY, n0, u1, a0]
      clear hw ha hb hA hB hL hX hY pa pb un up u1
      repeat' (first | with_reducible refine And.intro ?_ ?_ | with_reducible intro _)
      all_goals first | omega | trivial | rfl
end Go.Proofs.Ytbngamllllbfpaa.I
