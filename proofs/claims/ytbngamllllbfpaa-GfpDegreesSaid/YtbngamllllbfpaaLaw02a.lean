/- GfpRing, GfpSquares, GfpDegrees, GfpTells, as contracts. -/
import Derived.Test.YtbngamllllbfpaaLaw02
namespace Go.Proofs.Ytbngamllllbfpaa.I
open Go
set_option maxRecDepth 10000
set_option linter.unusedSimpArgs false
set_option linter.unusedVariables false

def c_law02_GfpRing : Cn := fn3 tU tU tU (fun _ _ _ => True) fun _ _ _ => .b true
noncomputable def cx_law02_GfpRing : Cx := { T := T, cs := [(15, c_law02_awake), (27, c_gfp_X), (28, c_gfp_Add), (31, c_gfp_Mul), (33, c_gfp_Same)], sch := [], ob := [], qs := [15, 27, 28, 31, 33] }
@[go_sem] theorem cx_law02_GfpRing_T : cx_law02_GfpRing.T = T := rfl
@[go_sem] theorem cx_law02_GfpRing_cs : cx_law02_GfpRing.cs = [(15, c_law02_awake), (27, c_gfp_X), (28, c_gfp_Add), (31, c_gfp_Mul), (33, c_gfp_Same)] := rfl
@[go_sem] theorem cx_law02_GfpRing_ob (d : Nat) : cx_law02_GfpRing.ob.contains d = false := rfl
theorem cok_law02_GfpRing : COk Try.prog cx_law02_GfpRing := cok_of rfl (.cons ok_law02_awake (.cons ok_gfp_X (.cons ok_gfp_Add (.cons ok_gfp_Mul (.cons ok_gfp_Same (.nil)))))) (.cons (fun _ => fn0_quiet) (.cons (fun _ => fn1_quiet) (.cons (fun _ => fn2_quiet) (.cons (fun _ => fn2_quiet) (.cons (fun _ => fn2_quiet) (.nil))))))
set_option maxHeartbeats 4000000 in
theorem ok_law02_GfpRing : Ok Try.prog 4 c_law02_GfpRing := by
  refine ok_fn3 cok_law02_GfpRing mixed Try.func4 rfl (by kernel_rfl) (by kernel_rfl) ?_
  intro a b c om hw _
  have ha := (wf_u ⟨hw.1, trivial⟩).2
  have hb := (wf_u ⟨hw.2.1, trivial⟩).2
  have hc := (wf_u ⟨hw.2.2.1, trivial⟩).2
  simp (maxSteps := 10000000) only [go_sem, Try.f4, Nat.reduceEqDiff, Nat.reduceBEq, Int.reduceToNat, Nat.reducePow, Nat.reduceMod, Nat.reduceAdd, Nat.reduceSub, Nat.reduceMul, Nat.reduceDiv, Nat.reduceLeDiff, Int.reduceAdd, Int.reduceSub, Int.reduceMul, Int.reduceDiv, Int.reduceMod, Int.reduceLE, Int.reduceLT, Int.reduceNeg, Int.reduceEq, Int.cast_ofNat_Int, Int.natCast_zero, List.contains_cons, List.contains_nil, Bool.or_false, Bool.or_true, Bool.true_or, reduceCtorEq, or_false, or_true, false_or, true_or, and_false, false_and, ne_eq, c_law02_awake, c_gfp_X, c_gfp_Add, c_gfp_Mul, c_gfp_Same]
  have h1 := bl_pv ha
  have h2 := bl_pv hb
  have h3 := bl_pv hc
  have b1 := bl_cm_le (pv a) (pv b)
  have b2 := bl_cm_le (pv b) (pv a)
  have b3 := bl_cm_le (pv a) (pv c)
  have b4 := bl_cm_le (pv b) (pv c)
  have b5 := bl_cm_le (cm (pv a) (pv b)) (pv c)
  have b6 := bl_cm_le (pv a) (cm (pv b) (pv c))
  have b7 := bl_xor_le (pv a) (pv b)
  have b8 := bl_xor_le (pv b) (pv a)
  have b9 := bl_xor_le (pv b) (pv c)
  have c1 := bl_xor_le (pv a ^^^ pv b) (pv b)
  have c2 := bl_cm_le (pv a) (pv b ^^^ pv c)
  have c3 := bl_xor_le (cm (pv a) (pv b)) (cm (pv a) (pv c))
  have u : upP 1 0 = 1 := rfl
  have u1 : bl 1 = 1 := rfl
  have c4 := bl_cm_le (pv a) 1
  rw [u, cm_zero_right]
  intro l1 l2 l3
  repeat' (first | refine And.intro ?_ ?_ | intro _)
  all_goals first
    | omega
    | (rename_i h; first | exact absurd (Nat.xor_comm _ _) h | exact absurd (xor_cancel' _ _) h | exact absurd (cm_comm _ _) h | exact absurd (cm_assoc _ _ _) h | exact absurd (cm_xor_right _ _ _) h | exact absurd (cm_one_right _) h)
    | rfl
theorem tb_nat (m n : Nat) : tb m n = if m.testBit n then 1 else 0 := by unfold tb; simp
theorem tb_sq (a n : Nat) : tb (cm a a) (2 * n) = tb a n := by
  have : (2 * (n : Int)) = ((2 * n : Nat) : Int) := by omega
  rw [this, tb_nat, tb_nat, (testBit_sq a n).1]
theorem tb_sq1 (a n : Nat) : tb (cm a a) (2 * n + 1) = 0 := by
  have : (2 * (n : Int) + 1) = ((2 * n + 1 : Nat) : Int) := by omega
  rw [this, tb_nat, (testBit_sq a n).2]; rfl

def c_law02_GfpSquares : Cn := fn3 tU tU (tN .u16) (fun _ _ _ => True) fun _ _ _ => .b true
noncomputable def cx_law02_GfpSquares : Cx := { T := T, cs := [(15, c_law02_awake), (16, c_law02_Large), (25, c_gfp_Bit), (28, c_gfp_Add), (31, c_gfp_Mul), (32, c_gfp_Square), (33, c_gfp_Same)], sch := [], ob := [], qs := [15, 16, 25, 28, 31, 32, 33] }
@[go_sem] theorem cx_law02_GfpSquares_T : cx_law02_GfpSquares.T = T := rfl
@[go_sem] theorem cx_law02_GfpSquares_cs : cx_law02_GfpSquares.cs = [(15, c_law02_awake), (16, c_law02_Large), (25, c_gfp_Bit), (28, c_gfp_Add), (31, c_gfp_Mul), (32, c_gfp_Square), (33, c_gfp_Same)] := rfl
@[go_sem] theorem cx_law02_GfpSquares_ob (d : Nat) : cx_law02_GfpSquares.ob.contains d = false := rfl
theorem cok_law02_GfpSquares : COk Try.prog cx_law02_GfpSquares := cok_of rfl (.cons ok_law02_awake (.cons ok_law02_Large (.cons ok_gfp_Bit (.cons ok_gfp_Add (.cons ok_gfp_Mul (.cons ok_gfp_Square (.cons ok_gfp_Same (.nil)))))))) (.cons (fun _ => fn0_quiet) (.cons (fun _ => fn1_quiet) (.cons (fun _ => fn2_quiet) (.cons (fun _ => fn2_quiet) (.cons (fun _ => fn2_quiet) (.cons (fun _ => fn1_quiet) (.cons (fun _ => fn2_quiet) (.nil))))))))
set_option maxHeartbeats 4000000 in
theorem ok_law02_GfpSquares : Ok Try.prog 5 c_law02_GfpSquares := by
  refine ok_fn3 cok_law02_GfpSquares mixed Try.func5 rfl (by kernel_rfl) (by kernel_rfl) ?_
  intro a b n om hw _
  have ha := (wf_u ⟨hw.1, trivial⟩).2
  have hb := (wf_u ⟨hw.2.1, trivial⟩).2
  have hn : n < 65536 := by have := hw.2.2.1; simpa [tN, V.wf, IntKind.bits] using this
  simp (maxSteps := 10000000) only [go_sem, Try.f5, Nat.reduceEqDiff, Nat.reduceBEq, Int.reduceToNat, Nat.reducePow, Nat.reduceMod, Nat.reduceAdd, Nat.reduceSub, Nat.reduceMul, Nat.reduceDiv, Nat.reduceLeDiff, Int.reduceAdd, Int.reduceSub, Int.reduceMul, Int.reduceDiv, Int.reduceMod, Int.reduceLE, Int.reduceLT, Int.reduceNeg, Int.reduceEq, Int.cast_ofNat_Int, Int.natCast_zero, List.contains_cons, List.contains_nil, Bool.or_false, Bool.or_true, Bool.true_or, reduceCtorEq, or_false, or_true, false_or, true_or, and_false, false_and, ne_eq, c_law02_awake, c_law02_Large, c_gfp_Bit, c_gfp_Add, c_gfp_Mul, c_gfp_Square, c_gfp_Same]
  refine ⟨rfl, ?_⟩
  cases hL : ([a, b].any fun xs => decide (16 < xs.length)) with
  | true => simp only [go_sem, Nat.reduceEqDiff, Nat.reduceBEq, Int.reduceToNat, Nat.reducePow, Nat.reduceMod, Nat.reduceAdd, Nat.reduceSub, Nat.reduceMul, Nat.reduceDiv, Nat.reduceLeDiff, Int.reduceAdd, Int.reduceSub, Int.reduceMul, Int.reduceDiv, Int.reduceMod, Int.reduceLE, Int.reduceLT, Int.reduceNeg, Int.reduceEq, Int.cast_ofNat_Int, Int.natCast_zero, List.contains_cons, List.contains_nil, Bool.or_false, Bool.or_true, Bool.true_or, reduceCtorEq, or_false, or_true, false_or, true_or, and_false, false_and, ne_eq, c_law02_awake, c_law02_Large, c_gfp_Bit, c_gfp_Add, c_gfp_Mul, c_gfp_Square, c_gfp_Same]
  | false =>
  have hla : a.length ≤ 16 ∧ b.length ≤ 16 := by simpa using hL
  obtain ⟨l1, l2⟩ := hla
  have h1 := bl_pv ha
  have h2 := bl_pv hb
  clear hL
  simp (maxSteps := 10000000) only [go_sem, Nat.reduceEqDiff, Nat.reduceBEq, Int.reduceToNat, Nat.reducePow, Nat.reduceMod, Nat.reduceAdd, Nat.reduceSub, Nat.reduceMul, Nat.reduceDiv, Nat.reduceLeDiff, Int.reduceAdd, Int.reduceSub, Int.reduceMul, Int.reduceDiv, Int.reduceMod, Int.reduceLE, Int.reduceLT, Int.reduceNeg, Int.reduceEq, Int.cast_ofNat_Int, Int.natCast_zero, List.contains_cons, List.contains_nil, Bool.or_false, Bool.or_true, Bool.true_or, reduceCtorEq, or_false, or_true, false_or, true_or, and_false, false_and, ne_eq, c_law02_awake, c_law02_Large, c_gfp_Bit, c_gfp_Add, c_gfp_Mul, c_gfp_Square, c_gfp_Same]
  have b1 := bl_cm_le (pv a) (pv a)
  have b2 := bl_cm_le (pv b) (pv b)
  have b3 := bl_xor_le (pv a) (pv b)
  have b4 := bl_xor_le (cm (pv a) (pv a)) (cm (pv b) (pv b))
  have b5 := bl_cm_le (pv a ^^^ pv b) (pv a ^^^ pv b)
  have e1 := cm_sq_xor (pv a) (pv b)
  have e2 := tb_sq (pv a) n
  have e3 := tb_sq1 (pv a) n
  repeat' (first | refine And.intro ?_ ?_ | intro _)
  all_goals omega


def c_law02_GfpDegrees : Cn := fn3 tU tU (tN .u16) (fun _ _ _ => True) fun _ _ _ => .b true
noncomputable def cx_law02_GfpDegrees : Cx := { T := T, cs := [(15, c_law02_awake), (16, c_law02_Large), (24, c_gfp_Deg), (25, c_gfp_Bit), (27, c_gfp_X), (28, c_gfp_Add), (30, c_gfp_Up), (31, c_gfp_Mul), (33, c_gfp_Same)], sch := [], ob := [], qs := [15, 16, 24, 25, 27, 28, 30, 31, 33] }
@[go_sem] theorem cx_law02_GfpDegrees_T : cx_law02_GfpDegrees.T = T := rfl
@[go_sem] theorem cx_law02_GfpDegrees_cs : cx_law02_GfpDegrees.cs = [(15, c_law02_awake), (16, c_law02_Large), (24, c_gfp_Deg), (25, c_gfp_Bit), (27, c_gfp_X), (28, c_gfp_Add), (30, c_gfp_Up), (31, c_gfp_Mul), (33, c_gfp_Same)] := rfl
@[go_sem] theorem cx_law02_GfpDegrees_ob (d : Nat) : cx_law02_GfpDegrees.ob.contains d = false := rfl
theorem cok_law02_GfpDegrees : COk Try.prog cx_law02_GfpDegrees := cok_of rfl (.cons ok_law02_awake (.cons ok_law02_Large (.cons ok_gfp_Deg (.cons ok_gfp_Bit (.cons ok_gfp_X (.cons ok_gfp_Add (.cons ok_gfp_Up (.cons ok_gfp_Mul (.cons ok_gfp_Same (.nil)))))))))) (.cons (fun _ => fn0_quiet) (.cons (fun _ => fn1_quiet) (.cons (fun _ => fn1_quiet) (.cons (fun _ => fn2_quiet) (.cons (fun _ => fn1_quiet) (.cons (fun _ => fn2_quiet) (.cons (fun _ => fn2_quiet) (.cons (fun _ => fn2_quiet) (.cons (fun _ => fn2_quiet) (.nil))))))))))
set_option maxHeartbeats 4000000 in
theorem ok_law02_GfpDegrees : Ok Try.prog 6 c_law02_GfpDegrees := by
  refine ok_fn3 cok_law02_GfpDegrees mixed Try.func6 rfl (by kernel_rfl) (by kernel_rfl) ?_
  intro a b n om hw _
  have ha := (wf_u ⟨hw.1, trivial⟩).2
  have hb := (wf_u ⟨hw.2.1, trivial⟩).2
  have hn : n < 65536 := by have := hw.2.2.1; simpa [tN, V.wf, IntKind.bits] using this
  simp (maxSteps := 10000000) only [go_sem, Try.f6, Nat.reduceEqDiff, Nat.reduceBEq, Int.reduceToNat, Nat.reducePow, Nat.reduceMod, Nat.reduceAdd, Nat.reduceSub, Nat.reduceMul, Nat.reduceDiv, Nat.reduceLeDiff, Int.reduceAdd, Int.reduceSub, Int.reduceMul, Int.reduceDiv, Int.reduceMod, Int.reduceLE, Int.reduceLT, Int.reduceNeg, Int.reduceEq, Int.cast_ofNat_Int, Int.natCast_zero, List.contains_cons, List.contains_nil, Bool.or_false, Bool.or_true, Bool.true_or, reduceCtorEq, or_false, or_true, false_or, true_or, and_false, false_and, ne_eq, c_law02_awake, c_law02_Large, c_gfp_Deg, c_gfp_Bit, c_gfp_X, c_gfp_Add, c_gfp_Up, c_gfp_Mul, c_gfp_Same]
  refine ⟨rfl, ?_⟩
  cases hL : ([a, b].any fun xs => decide (16 < xs.length)) with
  | true => simp only [go_sem, Nat.reduceEqDiff, Nat.reduceBEq, Int.reduceToNat, Nat.reducePow, Nat.reduceMod, Nat.reduceAdd, Nat.reduceSub, Nat.reduceMul, Nat.reduceDiv, Nat.reduceLeDiff, Int.reduceAdd, Int.reduceSub, Int.reduceMul, Int.reduceDiv, Int.reduceMod, Int.reduceLE, Int.reduceLT, Int.reduceNeg, Int.reduceEq, Int.cast_ofNat_Int, Int.natCast_zero, List.contains_cons, List.contains_nil, Bool.or_false, Bool.or_true, Bool.true_or, reduceCtorEq, or_false, or_true, false_or, true_or, and_false, false_and, ne_eq, c_law02_awake, c_law02_Large, c_gfp_Deg, c_gfp_Bit, c_gfp_X, c_gfp_Add, c_gfp_Up, c_gfp_Mul, c_gfp_Same]
  | false =>
  have hla : a.length ≤ 16 ∧ b.length ≤ 16 := by simpa using hL
  obtain ⟨l1, l2⟩ := hla
  have h1 := bl_pv ha
  have h2 := bl_pv hb
  clear hL
  simp (maxSteps := 10000000) only [go_sem, Nat.reduceEqDiff, Nat.reduceBEq, Int.reduceToNat, Nat.reducePow, Nat.reduceMod, Nat.reduceAdd, Nat.reduceSub, Nat.reduceMul, Nat.reduceDiv, Nat.reduceLeDiff, Int.reduceAdd, Int.reduceSub, Int.reduceMul, Int.reduceDiv, Int.reduceMod, Int.reduceLE, Int.reduceLT, Int.reduceNeg, Int.reduceEq, Int.cast_ofNat_Int, Int.natCast_zero, List.contains_cons, List.contains_nil, Bool.or_false, Bool.or_true, Bool.true_or, reduceCtorEq, or_false, or_true, false_or, true_or, and_false, false_and, ne_eq, c_law02_awake, c_law02_Large, c_gfp_Deg, c_gfp_Bit, c_gfp_X, c_gfp_Add, c_gfp_Up, c_gfp_Mul, c_gfp_Same]
  obtain ⟨A, hA⟩ : ∃ A, pv a = A := ⟨_, rfl⟩
  obtain ⟨B, hB⟩ : ∃ B, pv b = B := ⟨_, rfl⟩
  rw [hA] at h1 ⊢
  rw [hB] at h2 ⊢
  intro hn2
  have f0 := bl_cm_le A B
  have f1 : bl A = 0 → bl (cm A B) = 0 := fun h => by rw [bl_eq_zero.1 h]; rfl
  have f2 : bl B = 0 → bl (cm A B) = 0 := fun h => by rw [bl_eq_zero.1 h, cm_zero_right]; rfl
  have f3 : 0 < bl A → 0 < bl B → bl (cm A B) + 1 = bl A + bl B := fun h h' => bl_cm (bl_pos.1 h) (bl_pos.1 h')
  have f4 := bl_xor_le A B
  have f5 : bl A < bl B → bl (A ^^^ B) = bl B := bl_xor_ne
  have f6 : bl B < bl A → bl (A ^^^ B) = bl A := bl_xor_ne'
  have f7 : upP A n = A <<< n := by unfold upP; rw [if_pos (by omega)]; rfl
  have f8 : upP 1 n = 2 ^ n := by unfold upP; rw [if_pos (by omega)]; simp [Nat.shiftLeft_eq]
  have f9 : 0 < bl A → bl (A <<< n) = bl A + n := fun h => bl_shl (bl_pos.1 h) n
  have g0 : bl A = 0 → bl (A <<< n) = 0 := fun h => by rw [bl_eq_zero.1 h]; simp [bl_zero]
  have g1 : bl (2 ^ n) = n + 1 := bl_unique (Nat.le_refl _) (Nat.pow_lt_pow_right (by omega) (by omega))
  have g2 : A <<< n = cm A (2 ^ n) := (cm_pow_right n A).symm
  have g3 : 0 < bl A → tb A ((bl A : Int) - 1) = 1 := fun h => by
    unfold tb
    rw [show ((bl A : Int) - 1).toNat = bl A - 1 by omega, bl_top (bl_pos.1 h), if_pos ⟨by omega, rfl⟩]
  have g4 : tb A ((bl A : Int) - 1 + 1) = 0 := by
    unfold tb
    rw [show ((bl A : Int) - 1 + 1).toNat = bl A by omega, testBit_bl (Nat.le_refl _), if_neg (by simp)]
  rw [f7, f8, ← g2]
  clear hw ha hb hA hB f7 f8 g2
  repeat' (first | refine And.intro ?_ ?_ | intro _)
  all_goals omega

end Go.Proofs.Ytbngamllllbfpaa.I
