/- The references 08: Jump, Powers: walks. -/
import Derived.Test.YtaojebdjkpdcdaaRef8x
namespace Go.Proofs.Ytaojebdjkpdcdaa.I
open Go
set_option maxRecDepth 10000
set_option linter.unusedSimpArgs false
set_option linter.unusedVariables false

noncomputable def c_ref08_Powers : Cn := fn2 tX tZ (fun _ _ => True) fun s n => vX (xst s (2 ^ n.toNat))
noncomputable def cx_ref08_Powers : Cx := { T := T, E := E, cs := [(73, c_ref08_One), (74, c_ref08_Matrix_Twice), (75, c_ref08_Matrix_Of)], sch := [], ob := [5], qs := [73, 74, 75] }
@[go_sem] theorem cx_ref08_Powers_md : cx_ref08_Powers.md = 0 := rfl
@[go_sem] theorem cx_ref08_Powers_T : cx_ref08_Powers.T = T := rfl
@[go_sem] theorem cx_ref08_Powers_E : cx_ref08_Powers.E = E := rfl
@[go_sem] theorem cx_ref08_Powers_cs : cx_ref08_Powers.cs = [(73, c_ref08_One), (74, c_ref08_Matrix_Twice), (75, c_ref08_Matrix_Of)] := rfl
@[go_sem] theorem cx_ref08_Powers_ob : cx_ref08_Powers.ob = [5] := rfl
theorem cok_ref08_Powers : COk Try.prog (cx_ref08_Powers) := cok_of rfl (.cons ok_ref08_One (.cons ok_ref08_Matrix_Twice (.cons ok_ref08_Matrix_Of (.nil)))) (.cons (fun _ => fn0_quiet) (.cons (fun _ => quiet_ref08_Matrix_Twice) (.cons (fun _ => quiet_ref08_Matrix_Of) (.nil)))) (.nil)
theorem ok_ref08_Powers : Ok Try.prog 44 c_ref08_Powers := by
  refine ok_fn2 cok_ref08_Powers mixed Try.func44 rfl (by kernel_rfl) (by kernel_rfl) rfl ?_
  intro s n om hw _
  have hn : i64ok n := hw.2.1
  unfold i64ok at hn
  have q1 : hasN 0 1024 (els (V.n .u64) (zs 1024)) = true := by rw [hasN_iff, els_len, zs_len]; omega
  have q2 : (zs 1024).drop 1024 = [] := List.drop_eq_nil_of_le (by rw [zs_len]; omega)
  simp (config := {contextual := true}) only [go_sem, Try.f44, Nat.reduceEqDiff, Nat.reduceBEq, Int.reduceToNat, Nat.reducePow, Nat.reduceMod, Nat.reduceAdd, Nat.reduceSub, Nat.reduceMul, Nat.reduceDiv, Nat.reduceLeDiff, Int.reduceAdd, Int.reduceSub, Int.reduceMul, Int.reduceDiv, Int.reduceMod, Int.reduceLE, Int.reduceLT, Int.reduceNeg, Int.reduceEq, Int.cast_ofNat_Int, Int.natCast_zero, List.contains_cons, List.contains_nil, Bool.or_false, Bool.or_true, Bool.true_or, reduceCtorEq, or_false, or_true, false_or, true_or, and_false, false_and, ne_eq, List.take_zero, List.take_succ_cons, List.take_nil, List.drop_zero, List.drop_succ_cons, List.drop_nil, decide_true, decide_false, c_ref08_One, c_ref08_Matrix_Twice, c_ref08_Matrix_Of, Nat.reduceLT, Nat.zero_lt_one, Nat.zero_add, Int.toNat_natCast, Nat.zero_le, Nat.le_refl, q1, q2, mats_clen]
  intro _ id hid
  refine ⟨Nat, fun k => ⟨[vX s, .z n, .ref 2 1 4 0 0, .u, .ref 4 1 4 0 0, .obj id 0, .z k, .u, .u, .u, .u, .u, .u, .u, .u, .u], [(4, ⟨4, true, [vX x0], false⟩), (2, ⟨4, true, [vX s], false⟩)], om.put id (mcells (mats (2 ^ k)))⟩, fun k => k ≤ n.toNat, fun k => n.toNat - k, ⟨0, by omega, ?_⟩, ?_⟩
  · simp only [go_sem, Nat.reduceEqDiff, Nat.reduceBEq, Int.reduceToNat, Nat.reducePow, Nat.reduceMod, Nat.reduceAdd, Nat.reduceSub, Nat.reduceMul, Nat.reduceDiv, Nat.reduceLeDiff, Int.reduceAdd, Int.reduceSub, Int.reduceMul, Int.reduceDiv, Int.reduceMod, Int.reduceLE, Int.reduceLT, Int.reduceNeg, Int.reduceEq, Int.cast_ofNat_Int, Int.natCast_zero, List.contains_cons, List.contains_nil, Bool.or_false, Bool.or_true, Bool.true_or, reduceCtorEq, or_false, or_true, false_or, true_or, and_false, false_and, ne_eq, List.take_zero, List.take_succ_cons, List.take_nil, List.drop_zero, List.drop_succ_cons, List.drop_nil, decide_true, decide_false, c_ref08_One, c_ref08_Matrix_Twice, c_ref08_Matrix_Of, Nat.reduceLT, Nat.zero_lt_one, Nat.zero_add, Int.toNat_natCast, Nat.zero_le, Nat.le_refl, x0, Nat.pow_zero]
  · intro k hk
    have e2 : 2 ^ k + 2 ^ k = 2 ^ (k + 1) := by rw [Nat.pow_succ]; omega
    simp only [go_sem, Nat.reduceEqDiff, Nat.reduceBEq, Int.reduceToNat, Nat.reducePow, Nat.reduceMod, Nat.reduceAdd, Nat.reduceSub, Nat.reduceMul, Nat.reduceDiv, Nat.reduceLeDiff, Int.reduceAdd, Int.reduceSub, Int.reduceMul, Int.reduceDiv, Int.reduceMod, Int.reduceLE, Int.reduceLT, Int.reduceNeg, Int.reduceEq, Int.cast_ofNat_Int, Int.natCast_zero, List.contains_cons, List.contains_nil, Bool.or_false, Bool.or_true, Bool.true_or, reduceCtorEq, or_false, or_true, false_or, true_or, and_false, false_and, ne_eq, List.take_zero, List.take_succ_cons, List.take_nil, List.drop_zero, List.drop_succ_cons, List.drop_nil, decide_true, decide_false, c_ref08_One, c_ref08_Matrix_Twice, c_ref08_Matrix_Of, Nat.reduceLT, Nat.zero_lt_one, Nat.zero_add, Int.toNat_natCast, Nat.zero_le, Nat.le_refl, mats_clen]
    refine ⟨fun h => ⟨2 ^ k, rfl, ?_⟩, fun h => ⟨2 ^ k, rfl, ?_⟩⟩
    · rw [e2]
      refine fun _ => ⟨mats_has0 _, by omega, k + 1, by omega, ⟨by omega, ?_⟩, by omega⟩
      rw [mats_drop, List.append_nil]; exact .refl _
    · rw [show k = n.toNat by omega]
      exact fun _ => ⟨.put hid (.refl _), rfl, rfl, rfl, rfl⟩

noncomputable def c_ref08_Jump : Cn := fn2 tX tZs (fun _ l => good l ∧ l.length ≤ 1099511627776) fun s l => vX (xst s (bv l))
noncomputable def cx_ref08_Jump : Cx := { T := T, E := E, cs := [(57, c_ref02_Trim), (73, c_ref08_One), (74, c_ref08_Matrix_Twice), (75, c_ref08_Matrix_Of)], sch := [], ob := [5], qs := [57, 73, 74, 75] }
@[go_sem] theorem cx_ref08_Jump_md : cx_ref08_Jump.md = 0 := rfl
@[go_sem] theorem cx_ref08_Jump_T : cx_ref08_Jump.T = T := rfl
@[go_sem] theorem cx_ref08_Jump_E : cx_ref08_Jump.E = E := rfl
@[go_sem] theorem cx_ref08_Jump_cs : cx_ref08_Jump.cs = [(57, c_ref02_Trim), (73, c_ref08_One), (74, c_ref08_Matrix_Twice), (75, c_ref08_Matrix_Of)] := rfl
@[go_sem] theorem cx_ref08_Jump_ob : cx_ref08_Jump.ob = [5] := rfl
theorem cok_ref08_Jump : COk Try.prog (cx_ref08_Jump) := cok_of rfl (.cons ok_ref02_Trim (.cons ok_ref08_One (.cons ok_ref08_Matrix_Twice (.cons ok_ref08_Matrix_Of (.nil))))) (.cons (fun _ => fn1_quiet) (.cons (fun _ => fn0_quiet) (.cons (fun _ => quiet_ref08_Matrix_Twice) (.cons (fun _ => quiet_ref08_Matrix_Of) (.nil))))) (.nil)
theorem ok_ref08_Jump : Ok Try.prog 45 c_ref08_Jump := by
  refine ok_fn2 cok_ref08_Jump mixed Try.func45 rfl (by kernel_rfl) (by kernel_rfl) rfl ?_
  intro s l om hw ⟨hg, hl⟩
  have q1 : hasN 0 1024 (els (V.n .u64) (zs 1024)) = true := by rw [hasN_iff, els_len, zs_len]; omega
  have q2 : (zs 1024).drop 1024 = [] := List.drop_eq_nil_of_le (by rw [zs_len]; omega)
  simp (config := {contextual := true}) only [go_sem, Try.f45, Nat.reduceEqDiff, Nat.reduceBEq, Int.reduceToNat, Nat.reducePow, Nat.reduceMod, Nat.reduceAdd, Nat.reduceSub, Nat.reduceMul, Nat.reduceDiv, Nat.reduceLeDiff, Int.reduceAdd, Int.reduceSub, Int.reduceMul, Int.reduceDiv, Int.reduceMod, Int.reduceLE, Int.reduceLT, Int.reduceNeg, Int.reduceEq, Int.cast_ofNat_Int, Int.natCast_zero, List.contains_cons, List.contains_nil, Bool.or_false, Bool.or_true, Bool.true_or, reduceCtorEq, or_false, or_true, false_or, true_or, and_false, false_and, ne_eq, List.take_zero, List.take_succ_cons, List.take_nil, List.drop_zero, List.drop_succ_cons, List.drop_nil, decide_true, decide_false, c_ref02_Trim, c_ref08_One, c_ref08_Matrix_Twice, c_ref08_Matrix_Of, Nat.reduceLT, Nat.zero_lt_one, Nat.zero_add, Int.toNat_natCast, Nat.zero_le, Nat.le_refl, q1, q2, mats_clen]
  intro _ id hid
  refine ⟨⟨hg, hl⟩, fun hb => ?_⟩
  obtain ⟨b, hbv⟩ : ∃ b, bv l = b := ⟨_, rfl⟩
  rw [hbv] at hb
  simp only [hbv]
  refine ⟨Nat, fun k => ⟨[vX s, vB b, .ref 2 1 4 0 0, .u, .ref 4 1 4 0 0, .obj id 0, .z k, .u, .u, .u, .u, .u, .u, .u, .u, .u, .u, .u, .u, .u, .u, .u, .u, .u, .u], [(4, ⟨4, true, [vX x0], false⟩), (2, ⟨4, true, [vX (xst s (b % 2 ^ k))], false⟩)], om.put id (mcells (mats (2 ^ k)))⟩, fun k => k ≤ bl b, fun k => bl b - k, ⟨0, by omega, ?_⟩, ?_⟩
  · simp only [go_sem, Nat.reduceEqDiff, Nat.reduceBEq, Int.reduceToNat, Nat.reducePow, Nat.reduceMod, Nat.reduceAdd, Nat.reduceSub, Nat.reduceMul, Nat.reduceDiv, Nat.reduceLeDiff, Int.reduceAdd, Int.reduceSub, Int.reduceMul, Int.reduceDiv, Int.reduceMod, Int.reduceLE, Int.reduceLT, Int.reduceNeg, Int.reduceEq, Int.cast_ofNat_Int, Int.natCast_zero, List.contains_cons, List.contains_nil, Bool.or_false, Bool.or_true, Bool.true_or, reduceCtorEq, or_false, or_true, false_or, true_or, and_false, false_and, ne_eq, List.take_zero, List.take_succ_cons, List.take_nil, List.drop_zero, List.drop_succ_cons, List.drop_nil, decide_true, decide_false, c_ref02_Trim, c_ref08_One, c_ref08_Matrix_Twice, c_ref08_Matrix_Of, Nat.reduceLT, Nat.zero_lt_one, Nat.zero_add, Int.toNat_natCast, Nat.zero_le, Nat.le_refl, x0, Nat.pow_zero, Nat.mod_one, xst]
  · intro k hk
    have e2 : 2 ^ k + 2 ^ k = 2 ^ (k + 1) := by rw [Nat.pow_succ]; omega
    have eb : k < bl b → ((pb b).getD k 0 = 1 ↔ b.testBit k = true) := fun h => by
      unfold pb; rw [bits_getD _ _ _ h, bitI_eq_one]
    have eq : b % 2 ^ (k + 1) = b % 2 ^ k + 2 ^ k * (b / 2 ^ k % 2) := by rw [Nat.pow_succ, Nat.mod_mul]
    have et : b.testBit k = decide (b / 2 ^ k % 2 = 1) := Nat.testBit_eq_decide_div_mod_eq
    have s1 : b.testBit k = true → b % 2 ^ (k + 1) = b % 2 ^ k + 2 ^ k := fun h => by
      rw [et, decide_eq_true_iff] at h; rw [eq, h, Nat.mul_one]
    have s2 : ¬ b.testBit k = true → b % 2 ^ (k + 1) = b % 2 ^ k := fun h => by
      rw [et, decide_eq_true_iff] at h; rw [eq, show b / 2 ^ k % 2 = 0 by omega, Nat.mul_zero, Nat.add_zero]
    simp only [go_sem, Nat.reduceEqDiff, Nat.reduceBEq, Int.reduceToNat, Nat.reducePow, Nat.reduceMod, Nat.reduceAdd, Nat.reduceSub, Nat.reduceMul, Nat.reduceDiv, Nat.reduceLeDiff, Int.reduceAdd, Int.reduceSub, Int.reduceMul, Int.reduceDiv, Int.reduceMod, Int.reduceLE, Int.reduceLT, Int.reduceNeg, Int.reduceEq, Int.cast_ofNat_Int, Int.natCast_zero, List.contains_cons, List.contains_nil, Bool.or_false, Bool.or_true, Bool.true_or, reduceCtorEq, or_false, or_true, false_or, true_or, and_false, false_and, ne_eq, List.take_zero, List.take_succ_cons, List.take_nil, List.drop_zero, List.drop_succ_cons, List.drop_nil, decide_true, decide_false, c_ref02_Trim, c_ref08_One, c_ref08_Matrix_Twice, c_ref08_Matrix_Of, Nat.reduceLT, Nat.zero_lt_one, Nat.zero_add, Int.toNat_natCast, Nat.zero_le, Nat.le_refl, mats_clen]
    refine ⟨fun h => ⟨by omega, fun g => ⟨2 ^ k, rfl, fun _ => ⟨2 ^ k, rfl, ?_⟩⟩, fun g => ⟨2 ^ k, rfl, ?_⟩⟩, fun h => ?_⟩
    · rw [e2, xst_xst, ← s1 ((eb (by omega)).1 g)]
      refine fun _ => ⟨mats_has0 _, by omega, k + 1, by omega, ⟨by omega, ⟨rfl, rfl, rfl, rfl⟩, ?_⟩, by omega⟩
      rw [mats_drop, List.append_nil]; exact .refl _
    · rw [e2, ← s2 (fun e => g ((eb (by omega)).2 e))]
      refine fun _ => ⟨mats_has0 _, by omega, k + 1, by omega, ⟨by omega, ⟨rfl, rfl, rfl, rfl⟩, ?_⟩, by omega⟩
      rw [mats_drop, List.append_nil]; exact .refl _
    · rw [show k = bl b by omega, Nat.mod_eq_of_lt (lt_bl b), hbv]
      exact ⟨.put hid (.refl _), rfl, rfl, rfl, rfl⟩
end Go.Proofs.Ytaojebdjkpdcdaa.I
