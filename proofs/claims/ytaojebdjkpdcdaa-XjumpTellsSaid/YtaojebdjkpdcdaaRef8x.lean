/- The references 08: Twice, One: walks. -/
import Derived.Test.YtaojebdjkpdcdaaRef8w
namespace Go.Proofs.Ytaojebdjkpdcdaa.I
open Go
set_option maxRecDepth 10000
set_option linter.unusedSimpArgs false
set_option linter.unusedVariables false

noncomputable def c_ref08_Matrix_Twice : Cn
  | [.obj id 0], om, K => ∃ n, om id = some (mcells (mats n)) ∧ K.k (.agg (mcells (mats (n + n)))) om
  | _, _, _ => False
attribute [go_sem] c_ref08_Matrix_Twice.eq_1
theorem Matrix_Twice_inv {args : List V} {om : Om} {K : V → Om → Prop} (h : @c_ref08_Matrix_Twice args om ⟨K⟩) : ∃ id n, args = [.obj id 0] ∧ om id = some (mcells (mats n)) ∧ K (.agg (mcells (mats (n + n)))) om := by
  unfold c_ref08_Matrix_Twice at h
  split at h
  · obtain ⟨n, h1, h2⟩ := h
    exact ⟨_, n, rfl, h1, h2⟩
  · exact h.elim
theorem c_ref08_Matrix_Twice_mono : Mono c_ref08_Matrix_Twice := by
  intro args om K K' hK h
  unfold c_ref08_Matrix_Twice at h ⊢
  split at h
  · obtain ⟨n, h1, h2⟩ := h; exact ⟨n, h1, hK _ _ h2⟩
  · exact h.elim
theorem quiet_ref08_Matrix_Twice : Quiet c_ref08_Matrix_Twice := by
  intro args om K h
  unfold c_ref08_Matrix_Twice at h ⊢
  split at h
  · obtain ⟨n, h1, h2⟩ := h; exact ⟨n, h1, .refl _, h2⟩
  · exact h.elim
noncomputable def cx_ref08_Matrix_Twice : Cx := { T := T, E := E, cs := [(75, c_ref08_Matrix_Of)], sch := [], ob := [], qs := [75] }
@[go_sem] theorem cx_ref08_Matrix_Twice_md : cx_ref08_Matrix_Twice.md = 0 := rfl
@[go_sem] theorem cx_ref08_Matrix_Twice_T : cx_ref08_Matrix_Twice.T = T := rfl
@[go_sem] theorem cx_ref08_Matrix_Twice_E : cx_ref08_Matrix_Twice.E = E := rfl
@[go_sem] theorem cx_ref08_Matrix_Twice_cs : cx_ref08_Matrix_Twice.cs = [(75, c_ref08_Matrix_Of)] := rfl
@[go_sem] theorem cx_ref08_Matrix_Twice_ob (d : Nat) : (cx_ref08_Matrix_Twice.ob).contains d = false := rfl
theorem cok_ref08_Matrix_Twice : COk Try.prog (cx_ref08_Matrix_Twice) := cok_of rfl (.cons ok_ref08_Matrix_Of (.nil)) (.cons (fun _ => quiet_ref08_Matrix_Of) (.nil)) (.nil)
theorem ok_ref08_Matrix_Twice : Ok Try.prog 74 c_ref08_Matrix_Twice := by
  refine ok_of_body1 cok_ref08_Matrix_Twice mixed Try.func74 rfl (by kernel_rfl) (by kernel_rfl) c_ref08_Matrix_Twice_mono fun args om Q hw h => ?_
  obtain ⟨id, n, rfl, hid, hQ⟩ := Matrix_Twice_inv h
  have z3 := mats_zero (n + n)
  rw [map_zs] at z3
  simp only [go_sem, Try.f74, Nat.reduceEqDiff, Nat.reduceBEq, Int.reduceToNat, Nat.reducePow, Nat.reduceMod, Nat.reduceAdd, Nat.reduceSub, Nat.reduceMul, Nat.reduceDiv, Nat.reduceLeDiff, Int.reduceAdd, Int.reduceSub, Int.reduceMul, Int.reduceDiv, Int.reduceMod, Int.reduceLE, Int.reduceLT, Int.reduceNeg, Int.reduceEq, Int.cast_ofNat_Int, Int.natCast_zero, List.contains_cons, List.contains_nil, Bool.or_false, Bool.or_true, Bool.true_or, reduceCtorEq, or_false, or_true, false_or, true_or, and_false, false_and, ne_eq, List.take_zero, List.take_succ_cons, List.take_nil, List.drop_zero, List.drop_succ_cons, List.drop_nil, decide_true, decide_false, c_ref08_Matrix_Of, Nat.reduceLT, Nat.zero_lt_one, Nat.zero_add, Int.toNat_natCast, Nat.zero_le, Nat.le_refl, ← z3]
  refine ⟨Nat, fun k => ⟨[.obj id 0, .u, .ref 2 1 1024 0 0, .ref 3 1 1024 0 0, .z k, .u, .u, .u, .u, .u, .u, .u, .u, .u, .u, .u, .u, .u, .u, .u], [(3, ⟨1024, true, [.agg (mcells (matsK (n + n) k))], false⟩), (2, ⟨1024, true, [.agg (mcells (matsK (n + n) 0))], false⟩)], om⟩, fun k => k ≤ 256, fun k => 256 - k, ⟨0, by omega, ?_⟩, ?_⟩
  · simp only [go_sem, Nat.reduceEqDiff, Nat.reduceBEq, Int.reduceToNat, Nat.reducePow, Nat.reduceMod, Nat.reduceAdd, Nat.reduceSub, Nat.reduceMul, Nat.reduceDiv, Nat.reduceLeDiff, Int.reduceAdd, Int.reduceSub, Int.reduceMul, Int.reduceDiv, Int.reduceMod, Int.reduceLE, Int.reduceLT, Int.reduceNeg, Int.reduceEq, Int.cast_ofNat_Int, Int.natCast_zero, List.contains_cons, List.contains_nil, Bool.or_false, Bool.or_true, Bool.true_or, reduceCtorEq, or_false, or_true, false_or, true_or, and_false, false_and, ne_eq, List.take_zero, List.take_succ_cons, List.take_nil, List.drop_zero, List.drop_succ_cons, List.drop_nil, decide_true, decide_false, c_ref08_Matrix_Of, Nat.reduceLT, Nat.zero_lt_one, Nat.zero_add, Int.toNat_natCast, Nat.zero_le, Nat.le_refl]
  · intro k hk
    have sp := mats_splice (n + n) (k := k)
    unfold splice at sp
    simp only [cX_eq, List.length_cons, List.length_nil] at sp
    by_cases hk' : k < 256
    · simp only [go_sem, Nat.reduceEqDiff, Nat.reduceBEq, Int.reduceToNat, Nat.reducePow, Nat.reduceMod, Nat.reduceAdd, Nat.reduceSub, Nat.reduceMul, Nat.reduceDiv, Nat.reduceLeDiff, Int.reduceAdd, Int.reduceSub, Int.reduceMul, Int.reduceDiv, Int.reduceMod, Int.reduceLE, Int.reduceLT, Int.reduceNeg, Int.reduceEq, Int.cast_ofNat_Int, Int.natCast_zero, List.contains_cons, List.contains_nil, Bool.or_false, Bool.or_true, Bool.true_or, reduceCtorEq, or_false, or_true, false_or, true_or, and_false, false_and, ne_eq, List.take_zero, List.take_succ_cons, List.take_nil, List.drop_zero, List.drop_succ_cons, List.drop_nil, decide_true, decide_false, c_ref08_Matrix_Of, Nat.reduceLT, Nat.zero_lt_one, Nat.zero_add, Int.toNat_natCast, Nat.zero_le, Nat.le_refl, hid, mats_has n hk', mats_at n hk', matsK_has (n + n) k hk', xst_xst]
      refine ⟨fun h => ⟨by omega, n, rfl, fun _ => ⟨by omega, by omega, k + 1, by omega, ⟨by omega, ?_⟩, by omega⟩⟩, fun h => by omega⟩
      exact sp hk'
    · simp only [go_sem, Nat.reduceEqDiff, Nat.reduceBEq, Int.reduceToNat, Nat.reducePow, Nat.reduceMod, Nat.reduceAdd, Nat.reduceSub, Nat.reduceMul, Nat.reduceDiv, Nat.reduceLeDiff, Int.reduceAdd, Int.reduceSub, Int.reduceMul, Int.reduceDiv, Int.reduceMod, Int.reduceLE, Int.reduceLT, Int.reduceNeg, Int.reduceEq, Int.cast_ofNat_Int, Int.natCast_zero, List.contains_cons, List.contains_nil, Bool.or_false, Bool.or_true, Bool.true_or, reduceCtorEq, or_false, or_true, false_or, true_or, and_false, false_and, ne_eq, List.take_zero, List.take_succ_cons, List.take_nil, List.drop_zero, List.drop_succ_cons, List.drop_nil, decide_true, decide_false, c_ref08_Matrix_Of, Nat.reduceLT, Nat.zero_lt_one, Nat.zero_add, Int.toNat_natCast, Nat.zero_le, Nat.le_refl, hid]
      refine ⟨fun h => by omega, fun _ => ?_⟩
      rw [show k = 256 by omega, matsK_all]
      exact hQ

noncomputable def c_ref08_One : Cn := fn0 (.agg (mcells (mats 1)))
noncomputable def cx_ref08_One : Cx := { T := T, E := E, cs := [(72, c_ref07_Step)], sch := [], ob := [], qs := [72] }
@[go_sem] theorem cx_ref08_One_md : cx_ref08_One.md = 0 := rfl
@[go_sem] theorem cx_ref08_One_T : cx_ref08_One.T = T := rfl
@[go_sem] theorem cx_ref08_One_E : cx_ref08_One.E = E := rfl
@[go_sem] theorem cx_ref08_One_cs : cx_ref08_One.cs = [(72, c_ref07_Step)] := rfl
@[go_sem] theorem cx_ref08_One_ob (d : Nat) : (cx_ref08_One.ob).contains d = false := rfl
theorem cok_ref08_One : COk Try.prog (cx_ref08_One) := cok_of rfl (.cons ok_ref07_Step (.nil)) (.cons (fun _ => fn1_quiet) (.nil)) (.nil)
set_option maxHeartbeats 1000000 in
theorem ok_ref08_One : Ok Try.prog 73 c_ref08_One := by
  refine ok_fn0 cok_ref08_One mixed Try.func73 rfl (by kernel_rfl) (by kernel_rfl) rfl ?_
  intro om
  have z3 := mats_zero 1
  rw [map_zs] at z3
  simp only [go_sem, Try.f73, Nat.reduceEqDiff, Nat.reduceBEq, Int.reduceToNat, Nat.reducePow, Nat.reduceMod, Nat.reduceAdd, Nat.reduceSub, Nat.reduceMul, Nat.reduceDiv, Nat.reduceLeDiff, Int.reduceAdd, Int.reduceSub, Int.reduceMul, Int.reduceDiv, Int.reduceMod, Int.reduceLE, Int.reduceLT, Int.reduceNeg, Int.reduceEq, Int.cast_ofNat_Int, Int.natCast_zero, List.contains_cons, List.contains_nil, Bool.or_false, Bool.or_true, Bool.true_or, reduceCtorEq, or_false, or_true, false_or, true_or, and_false, false_and, ne_eq, List.take_zero, List.take_succ_cons, List.take_nil, List.drop_zero, List.drop_succ_cons, List.drop_nil, decide_true, decide_false, c_ref07_Step, Nat.reduceLT, Nat.zero_lt_one, Nat.zero_add, Int.toNat_natCast, Nat.zero_le, Nat.le_refl, ← z3]
  refine ⟨Nat, fun k => ⟨[.ref 0 1 1024 0 0, .ref 1 1 1024 0 0, .z k, .u, .u, .u, .u, .u, .u, .u, .u, .u, .u, .u, .u, .u, .u, .u, .u, .u, .u], [(1, ⟨1024, true, [.agg (mcells (matsK 1 k))], false⟩), (0, ⟨1024, true, [.agg (mcells (matsK 1 0))], false⟩)], om⟩, fun k => k ≤ 256, fun k => 256 - k, ⟨0, by omega, ?_⟩, ?_⟩
  · simp only [go_sem, Nat.reduceEqDiff, Nat.reduceBEq, Int.reduceToNat, Nat.reducePow, Nat.reduceMod, Nat.reduceAdd, Nat.reduceSub, Nat.reduceMul, Nat.reduceDiv, Nat.reduceLeDiff, Int.reduceAdd, Int.reduceSub, Int.reduceMul, Int.reduceDiv, Int.reduceMod, Int.reduceLE, Int.reduceLT, Int.reduceNeg, Int.reduceEq, Int.cast_ofNat_Int, Int.natCast_zero, List.contains_cons, List.contains_nil, Bool.or_false, Bool.or_true, Bool.true_or, reduceCtorEq, or_false, or_true, false_or, true_or, and_false, false_and, ne_eq, List.take_zero, List.take_succ_cons, List.take_nil, List.drop_zero, List.drop_succ_cons, List.drop_nil, decide_true, decide_false, c_ref07_Step, Nat.reduceLT, Nat.zero_lt_one, Nat.zero_add, Int.toNat_natCast, Nat.zero_le, Nat.le_refl]
  · intro k hk
    have sp := mats_splice 1 (k := k)
    unfold splice at sp
    simp only [cX_eq, List.length_cons, List.length_nil] at sp
    by_cases hk' : k < 256
    · have w : (k : Int) / 64 = 0 ∨ (k : Int) / 64 = 1 ∨ (k : Int) / 64 = 2 ∨ (k : Int) / 64 = 3 := by omega
      have sh : 1 <<< ((k : Int) % 64).toNat % 18446744073709551616 = 2 ^ (k % 64) := by
        rw [show ((k : Int) % 64).toNat = k % 64 by omega, Nat.one_shiftLeft, Nat.mod_eq_of_lt (two64 k)]
      rcases w with w | w | w | w
      all_goals simp only [go_sem, Nat.reduceEqDiff, Nat.reduceBEq, Int.reduceToNat, Nat.reducePow, Nat.reduceMod, Nat.reduceAdd, Nat.reduceSub, Nat.reduceMul, Nat.reduceDiv, Nat.reduceLeDiff, Int.reduceAdd, Int.reduceSub, Int.reduceMul, Int.reduceDiv, Int.reduceMod, Int.reduceLE, Int.reduceLT, Int.reduceNeg, Int.reduceEq, Int.cast_ofNat_Int, Int.natCast_zero, List.contains_cons, List.contains_nil, Bool.or_false, Bool.or_true, Bool.true_or, reduceCtorEq, or_false, or_true, false_or, true_or, and_false, false_and, ne_eq, List.take_zero, List.take_succ_cons, List.take_nil, List.drop_zero, List.drop_succ_cons, List.drop_nil, decide_true, decide_false, c_ref07_Step, Nat.reduceLT, Nat.zero_lt_one, Nat.zero_add, Int.toNat_natCast, Nat.zero_le, Nat.le_refl, w, matsK_has 1 k hk', sh]
      all_goals refine ⟨fun h => ⟨by omega, by omega, by omega, fun _ => ⟨by omega, by omega, k + 1, by omega, ⟨by omega, ?_⟩, by omega⟩⟩, fun h => by omega⟩
      · simp only [unit, show k / 64 = 0 by omega, if_true, Nat.reduceEqDiff, if_false] at sp
        exact sp hk'
      · simp only [unit, show k / 64 = 1 by omega, if_true, Nat.reduceEqDiff, if_false] at sp
        exact sp hk'
      · simp only [unit, show k / 64 = 2 by omega, if_true, Nat.reduceEqDiff, if_false] at sp
        exact sp hk'
      · simp only [unit, show k / 64 = 3 by omega, if_true, Nat.reduceEqDiff, if_false] at sp
        exact sp hk'
    · simp only [go_sem, Nat.reduceEqDiff, Nat.reduceBEq, Int.reduceToNat, Nat.reducePow, Nat.reduceMod, Nat.reduceAdd, Nat.reduceSub, Nat.reduceMul, Nat.reduceDiv, Nat.reduceLeDiff, Int.reduceAdd, Int.reduceSub, Int.reduceMul, Int.reduceDiv, Int.reduceMod, Int.reduceLE, Int.reduceLT, Int.reduceNeg, Int.reduceEq, Int.cast_ofNat_Int, Int.natCast_zero, List.contains_cons, List.contains_nil, Bool.or_false, Bool.or_true, Bool.true_or, reduceCtorEq, or_false, or_true, false_or, true_or, and_false, false_and, ne_eq, List.take_zero, List.take_succ_cons, List.take_nil, List.drop_zero, List.drop_succ_cons, List.drop_nil, decide_true, decide_false, c_ref07_Step, Nat.reduceLT, Nat.zero_lt_one, Nat.zero_add, Int.toNat_natCast, Nat.zero_le, Nat.le_refl]
      refine ⟨fun h => by omega, fun _ => ?_⟩
      rw [show k = 256 by omega, matsK_all]
end Go.Proofs.Ytaojebdjkpdcdaa.I
