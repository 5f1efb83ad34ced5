/- The references 08: At, Of: walks. -/
import Derived.Test.YtaojebdjkpdcdaaRef8
namespace Go.Proofs.Ytaojebdjkpdcdaa.I
open Go
set_option maxRecDepth 10000
set_option linter.unusedSimpArgs false
set_option linter.unusedVariables false

noncomputable def c_ref08_At : Cn := fn2 tZs tX (fun l _ => good l ∧ l.length ≤ 1099511627776) fun l s => vX (act (bv l) s)
noncomputable def cx_ref08_At : Cx := { T := T, E := E, cs := [(71, c_ref08_Add), (72, c_ref07_Step)], sch := [], ob := [], qs := [71, 72] }
@[go_sem] theorem cx_ref08_At_md : cx_ref08_At.md = 0 := rfl
@[go_sem] theorem cx_ref08_At_T : cx_ref08_At.T = T := rfl
@[go_sem] theorem cx_ref08_At_E : cx_ref08_At.E = E := rfl
@[go_sem] theorem cx_ref08_At_cs : cx_ref08_At.cs = [(71, c_ref08_Add), (72, c_ref07_Step)] := rfl
@[go_sem] theorem cx_ref08_At_ob (d : Nat) : (cx_ref08_At.ob).contains d = false := rfl
theorem cok_ref08_At : COk Try.prog (cx_ref08_At) := cok_of rfl (.cons ok_ref08_Add (.cons ok_ref07_Step (.nil))) (.cons (fun _ => fn2_quiet) (.cons (fun _ => fn1_quiet) (.nil))) (.nil)
theorem ok_ref08_At : Ok Try.prog 43 c_ref08_At := by
  refine ok_fn2 cok_ref08_At mixed Try.func43 rfl (by kernel_rfl) (by kernel_rfl) rfl ?_
  intro l s om hw ⟨hg, hl⟩
  simp only [go_sem, Try.f43, Nat.reduceEqDiff, Nat.reduceBEq, Int.reduceToNat, Nat.reducePow, Nat.reduceMod, Nat.reduceAdd, Nat.reduceSub, Nat.reduceMul, Nat.reduceDiv, Nat.reduceLeDiff, Int.reduceAdd, Int.reduceSub, Int.reduceMul, Int.reduceDiv, Int.reduceMod, Int.reduceLE, Int.reduceLT, Int.reduceNeg, Int.reduceEq, Int.cast_ofNat_Int, Int.natCast_zero, List.contains_cons, List.contains_nil, Bool.or_false, Bool.or_true, Bool.true_or, reduceCtorEq, or_false, or_true, false_or, true_or, and_false, false_and, ne_eq, List.take_zero, List.take_succ_cons, List.take_nil, List.drop_zero, List.drop_succ_cons, List.drop_nil, decide_true, decide_false, c_ref08_Add, c_ref07_Step, Nat.reduceLT, Nat.zero_lt_one, Nat.zero_add, Int.toNat_natCast, Nat.zero_le, Nat.le_refl]
  refine ⟨Nat, fun k => ⟨[.sl (els V.z l), .u, .u, .ref 3 1 4 0 0, .ref 4 1 4 0 0, .ref 5 1 4 0 0, .z k, .u, .u, .u, .u, .u, .u, .u, .u, .u, .u, .u, .u, .u, .u, .u, .u, .u, .u], [(5, ⟨4, true, [vX (xat (bv l) s k)], false⟩), (4, ⟨4, true, [vX x0], false⟩), (3, ⟨4, true, [vX (xst s k)], false⟩)], om⟩, fun k => k ≤ l.length, fun k => l.length - k, ⟨0, Nat.zero_le _, ?_⟩, ?_⟩
  · simp only [go_sem, Nat.reduceEqDiff, Nat.reduceBEq, Int.reduceToNat, Nat.reducePow, Nat.reduceMod, Nat.reduceAdd, Nat.reduceSub, Nat.reduceMul, Nat.reduceDiv, Nat.reduceLeDiff, Int.reduceAdd, Int.reduceSub, Int.reduceMul, Int.reduceDiv, Int.reduceMod, Int.reduceLE, Int.reduceLT, Int.reduceNeg, Int.reduceEq, Int.cast_ofNat_Int, Int.natCast_zero, List.contains_cons, List.contains_nil, Bool.or_false, Bool.or_true, Bool.true_or, reduceCtorEq, or_false, or_true, false_or, true_or, and_false, false_and, ne_eq, List.take_zero, List.take_succ_cons, List.take_nil, List.drop_zero, List.drop_succ_cons, List.drop_nil, decide_true, decide_false, c_ref08_Add, c_ref07_Step, Nat.reduceLT, Nat.zero_lt_one, Nat.zero_add, Int.toNat_natCast, Nat.zero_le, Nat.le_refl, xat, xst, x0]
  · intro k hk
    have ht : l.getD k 0 = 1 ↔ (bv l).testBit k = true := by rw [testBit_bv, decide_eq_true_iff]
    have s1 : (bv l).testBit k = true → xat (bv l) s (k + 1) = xadd (xat (bv l) s k) (xst s k) := fun h => by rw [xat, if_pos h]
    have s2 : ¬ (bv l).testBit k = true → xat (bv l) s (k + 1) = xat (bv l) s k := fun h => by rw [xat, if_neg h]
    simp only [go_sem, Nat.reduceEqDiff, Nat.reduceBEq, Int.reduceToNat, Nat.reducePow, Nat.reduceMod, Nat.reduceAdd, Nat.reduceSub, Nat.reduceMul, Nat.reduceDiv, Nat.reduceLeDiff, Int.reduceAdd, Int.reduceSub, Int.reduceMul, Int.reduceDiv, Int.reduceMod, Int.reduceLE, Int.reduceLT, Int.reduceNeg, Int.reduceEq, Int.cast_ofNat_Int, Int.natCast_zero, List.contains_cons, List.contains_nil, Bool.or_false, Bool.or_true, Bool.true_or, reduceCtorEq, or_false, or_true, false_or, true_or, and_false, false_and, ne_eq, List.take_zero, List.take_succ_cons, List.take_nil, List.drop_zero, List.drop_succ_cons, List.drop_nil, decide_true, decide_false, c_ref08_Add, c_ref07_Step, Nat.reduceLT, Nat.zero_lt_one, Nat.zero_add, Int.toNat_natCast, Nat.zero_le, Nat.le_refl]
    repeat' (first | with_reducible refine And.intro ?_ ?_ | with_reducible intro _ | with_reducible refine Exists.intro (k + 1) ?_)
    all_goals first | omega | rfl | (rw [s1 (ht.1 (by assumption))]) | (rw [s2 (fun e => absurd (ht.2 e) (by assumption))]) | (rw [show k = l.length by omega, act_of (bl_bv l)])

noncomputable def c_ref08_Matrix_Of : Cn
  | [.obj id 0, v], om, K => @so _ (tX.dec v) ⟨fun t => ∃ n, om id = some (mcells (mats n)) ∧ K.k (vX (xst t n)) om⟩
  | _, _, _ => False
attribute [go_sem] c_ref08_Matrix_Of.eq_1
theorem Matrix_Of_inv {args : List V} {om : Om} {K : V → Om → Prop} (h : @c_ref08_Matrix_Of args om ⟨K⟩) : ∃ id t n, args = [.obj id 0, vX t] ∧ om id = some (mcells (mats n)) ∧ K (vX (xst t n)) om := by
  unfold c_ref08_Matrix_Of at h
  split at h
  · obtain ⟨t, e, n, h1, h2⟩ := so_inv h
    have := tX.h2 _ _ e
    exact ⟨_, t, n, by rw [this]; rfl, h1, h2⟩
  · exact h.elim
theorem c_ref08_Matrix_Of_mono : Mono c_ref08_Matrix_Of := by
  intro args om K K' hK h
  unfold c_ref08_Matrix_Of at h ⊢
  split at h
  · exact mono_so (fun t ⟨n, h1, h2⟩ => ⟨n, h1, hK _ _ h2⟩) h
  · exact h.elim
theorem quiet_ref08_Matrix_Of : Quiet c_ref08_Matrix_Of := by
  intro args om K h
  unfold c_ref08_Matrix_Of at h ⊢
  split at h
  · exact mono_so (fun t ⟨n, h1, h2⟩ => ⟨n, h1, .refl _, h2⟩) h
  · exact h.elim
noncomputable def cx_ref08_Matrix_Of : Cx := { T := T, E := E, cs := [(71, c_ref08_Add)], sch := [(6, false, .take 0 (.take 1 (.take 2 (.take 3 (.take 4 (.take 5 (.alt 6 (.alt 7 (.done) .no) .no)))))))], ob := [], qs := [71] }
@[go_sem] theorem cx_ref08_Matrix_Of_md : cx_ref08_Matrix_Of.md = 0 := rfl
@[go_sem] theorem cx_ref08_Matrix_Of_T : cx_ref08_Matrix_Of.T = T := rfl
@[go_sem] theorem cx_ref08_Matrix_Of_E : cx_ref08_Matrix_Of.E = E := rfl
@[go_sem] theorem cx_ref08_Matrix_Of_cs : cx_ref08_Matrix_Of.cs = [(71, c_ref08_Add)] := rfl
@[go_sem] theorem cx_ref08_Matrix_Of_sch : cx_ref08_Matrix_Of.sch = [(6, false, .take 0 (.take 1 (.take 2 (.take 3 (.take 4 (.take 5 (.alt 6 (.alt 7 (.done) .no) .no)))))))] := rfl
@[go_sem] theorem cx_ref08_Matrix_Of_ob (d : Nat) : (cx_ref08_Matrix_Of.ob).contains d = false := rfl
theorem cok_ref08_Matrix_Of : COk Try.prog (cx_ref08_Matrix_Of) := cok_of rfl (.cons ok_ref08_Add (.nil)) (.cons (fun _ => fn2_quiet) (.nil)) (.nil)
theorem ok_ref08_Matrix_Of : Ok Try.prog 75 c_ref08_Matrix_Of := by
  refine ok_of_body1 cok_ref08_Matrix_Of mixed Try.func75 rfl (by kernel_rfl) (by kernel_rfl) c_ref08_Matrix_Of_mono fun args om Q hw h => ?_
  obtain ⟨id, t, n, rfl, hid, hQ⟩ := Matrix_Of_inv h
  have ht : t.wf := wf_x hw.2
  simp only [go_sem, Try.f75, Nat.reduceEqDiff, Nat.reduceBEq, Int.reduceToNat, Nat.reducePow, Nat.reduceMod, Nat.reduceAdd, Nat.reduceSub, Nat.reduceMul, Nat.reduceDiv, Nat.reduceLeDiff, Int.reduceAdd, Int.reduceSub, Int.reduceMul, Int.reduceDiv, Int.reduceMod, Int.reduceLE, Int.reduceLT, Int.reduceNeg, Int.reduceEq, Int.cast_ofNat_Int, Int.natCast_zero, List.contains_cons, List.contains_nil, Bool.or_false, Bool.or_true, Bool.true_or, reduceCtorEq, or_false, or_true, false_or, true_or, and_false, false_and, ne_eq, List.take_zero, List.take_succ_cons, List.take_nil, List.drop_zero, List.drop_succ_cons, List.drop_nil, decide_true, decide_false, c_ref08_Add, Nat.reduceLT, Nat.zero_lt_one, Nat.zero_add, Int.toNat_natCast, Nat.zero_le, Nat.le_refl]
  refine ⟨Nat, fun k => ⟨[.obj id 0, .u, .u, .ref 3 1 4 0 0, .ref 4 1 4 0 0, .ref 5 1 4 0 0, .z k, .u, .u, .u, .u, .u, .u, .u, .u, .u, .u, .u, .u, .u, .u, .u, .u, .u, .u, .u, .u, .u, .u], [(5, ⟨4, true, [vX (xst (lowS t k) n)], false⟩), (4, ⟨4, true, [vX x0], false⟩), (3, ⟨4, true, [vX t], false⟩)], om⟩, fun k => k ≤ 256, fun k => 256 - k, ⟨0, by omega, ?_⟩, ?_⟩
  · have z := xst_zero n
    unfold x0 at z
    simp only [go_sem, Nat.reduceEqDiff, Nat.reduceBEq, Int.reduceToNat, Nat.reducePow, Nat.reduceMod, Nat.reduceAdd, Nat.reduceSub, Nat.reduceMul, Nat.reduceDiv, Nat.reduceLeDiff, Int.reduceAdd, Int.reduceSub, Int.reduceMul, Int.reduceDiv, Int.reduceMod, Int.reduceLE, Int.reduceLT, Int.reduceNeg, Int.reduceEq, Int.cast_ofNat_Int, Int.natCast_zero, List.contains_cons, List.contains_nil, Bool.or_false, Bool.or_true, Bool.true_or, reduceCtorEq, or_false, or_true, false_or, true_or, and_false, false_and, ne_eq, List.take_zero, List.take_succ_cons, List.take_nil, List.drop_zero, List.drop_succ_cons, List.drop_nil, decide_true, decide_false, c_ref08_Add, Nat.reduceLT, Nat.zero_lt_one, Nat.zero_add, Int.toNat_natCast, Nat.zero_le, Nat.le_refl, lowS, x0, z]
  · intro k hk
    have hb : ∀ x : Nat, x >>> ((k : Int) % 64).toNat % 2 = 1 ↔ x.testBit (k % 64) = true := fun x => by
      rw [show ((k : Int) % 64).toNat = k % 64 by omega, Nat.shiftRight_eq_div_pow, Nat.testBit_eq_decide_div_mod_eq, decide_eq_true_iff]
    have u1 : ∀ w, k / 64 = w → (wo t w).testBit (k % 64) = true → xst (lowS t (k + 1)) n = xadd (xst (lowS t k) n) (xst (unit k) n) := fun w e h => by
      rw [lowS, e, if_pos h, xst_add (lowS_wf t k) (unit_wf k)]
    have u2 : ∀ w, k / 64 = w → ¬ (wo t w).testBit (k % 64) = true → xst (lowS t (k + 1)) n = xst (lowS t k) n := fun w e h => by
      rw [lowS, e, if_neg h]
    by_cases hk' : k < 256
    · have w : (k : Int) / 64 = 0 ∨ (k : Int) / 64 = 1 ∨ (k : Int) / 64 = 2 ∨ (k : Int) / 64 = 3 := by omega
      rcases w with w | w | w | w
      all_goals simp only [go_sem, Nat.reduceEqDiff, Nat.reduceBEq, Int.reduceToNat, Nat.reducePow, Nat.reduceMod, Nat.reduceAdd, Nat.reduceSub, Nat.reduceMul, Nat.reduceDiv, Nat.reduceLeDiff, Int.reduceAdd, Int.reduceSub, Int.reduceMul, Int.reduceDiv, Int.reduceMod, Int.reduceLE, Int.reduceLT, Int.reduceNeg, Int.reduceEq, Int.cast_ofNat_Int, Int.natCast_zero, List.contains_cons, List.contains_nil, Bool.or_false, Bool.or_true, Bool.true_or, reduceCtorEq, or_false, or_true, false_or, true_or, and_false, false_and, ne_eq, List.take_zero, List.take_succ_cons, List.take_nil, List.drop_zero, List.drop_succ_cons, List.drop_nil, decide_true, decide_false, c_ref08_Add, Nat.reduceLT, Nat.zero_lt_one, Nat.zero_add, Int.toNat_natCast, Nat.zero_le, Nat.le_refl, w, hid, mats_has n hk', mats_at n hk']
      all_goals repeat' (first | with_reducible refine And.intro ?_ ?_ | with_reducible intro _ | with_reducible refine Exists.intro (k + 1) ?_)
      all_goals first | omega | (rw [u1 0 (by omega) ((hb _).1 (by assumption))]) | (rw [u1 1 (by omega) ((hb _).1 (by assumption))]) | (rw [u1 2 (by omega) ((hb _).1 (by assumption))]) | (rw [u1 3 (by omega) ((hb _).1 (by assumption))]) | (rw [u2 0 (by omega) (fun e => absurd ((hb _).2 e) (by assumption))]) | (rw [u2 1 (by omega) (fun e => absurd ((hb _).2 e) (by assumption))]) | (rw [u2 2 (by omega) (fun e => absurd ((hb _).2 e) (by assumption))]) | (rw [u2 3 (by omega) (fun e => absurd ((hb _).2 e) (by assumption))])
    · simp only [go_sem, Nat.reduceEqDiff, Nat.reduceBEq, Int.reduceToNat, Nat.reducePow, Nat.reduceMod, Nat.reduceAdd, Nat.reduceSub, Nat.reduceMul, Nat.reduceDiv, Nat.reduceLeDiff, Int.reduceAdd, Int.reduceSub, Int.reduceMul, Int.reduceDiv, Int.reduceMod, Int.reduceLE, Int.reduceLT, Int.reduceNeg, Int.reduceEq, Int.cast_ofNat_Int, Int.natCast_zero, List.contains_cons, List.contains_nil, Bool.or_false, Bool.or_true, Bool.true_or, reduceCtorEq, or_false, or_true, false_or, true_or, and_false, false_and, ne_eq, List.take_zero, List.take_succ_cons, List.take_nil, List.drop_zero, List.drop_succ_cons, List.drop_nil, decide_true, decide_false, c_ref08_Add, Nat.reduceLT, Nat.zero_lt_one, Nat.zero_add, Int.toNat_natCast, Nat.zero_le, Nat.le_refl, hid]
      refine ⟨fun h => by omega, fun _ => ?_⟩
      rw [show k = 256 by omega, lowS_all ht]
      exact hQ

end Go.Proofs.Ytaojebdjkpdcdaa.I
