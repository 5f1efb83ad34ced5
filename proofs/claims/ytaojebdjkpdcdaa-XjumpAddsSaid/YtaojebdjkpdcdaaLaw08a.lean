/- XjumpSteps, XjumpAdds, as contracts. -/
import Derived.Test.YtaojebdjkpdcdaaLaw08
namespace Go.Proofs.Ytaojebdjkpdcdaa.I
open Go
set_option maxRecDepth 10000
set_option linter.unusedSimpArgs false
set_option linter.unusedVariables false

noncomputable def c_law08_XjumpSteps : Cn := fn2 tX (tN .u16) (fun _ _ => True) fun _ _ => .b true
noncomputable def cx_law08_XjumpSteps : Cx := { T := T, E := E, cs := [(27, c_wide_Of), (39, c_law08_awake), (40, c_xjump_Jump), (47, c_ref07_Jump)], sch := [(5, false, .take 0 (.take 1 (.take 2 (.alt 3 (.alt 4 (.take 5 (.take 6 (.take 7 (.alt 8 (.alt 9 (.take 10 (.done)) .no) .no)))) (.alt 8 (.alt 4 (.take 5 (.take 6 (.take 7 (.alt 9 (.take 10 (.done)) .no)))) .no) (.no))) (.alt 8 (.alt 3 (.alt 4 (.take 5 (.take 6 (.take 7 (.alt 9 (.take 10 (.done)) .no)))) .no) .no) (.no)))))), (6, false, .take 0 (.take 1 (.take 2 (.take 3 (.take 4 (.take 5 (.take 6 (.alt 7 (.take 8 (.take 9 (.take 10 (.done)))) .no))))))))], ob := [], qs := [27, 39, 40, 47] }
@[go_sem] theorem cx_law08_XjumpSteps_md : cx_law08_XjumpSteps.md = 0 := rfl
@[go_sem] theorem cx_law08_XjumpSteps_T : cx_law08_XjumpSteps.T = T := rfl
@[go_sem] theorem cx_law08_XjumpSteps_E : cx_law08_XjumpSteps.E = E := rfl
@[go_sem] theorem cx_law08_XjumpSteps_cs : cx_law08_XjumpSteps.cs = [(27, c_wide_Of), (39, c_law08_awake), (40, c_xjump_Jump), (47, c_ref07_Jump)] := rfl
@[go_sem] theorem cx_law08_XjumpSteps_sch : cx_law08_XjumpSteps.sch = [(5, false, .take 0 (.take 1 (.take 2 (.alt 3 (.alt 4 (.take 5 (.take 6 (.take 7 (.alt 8 (.alt 9 (.take 10 (.done)) .no) .no)))) (.alt 8 (.alt 4 (.take 5 (.take 6 (.take 7 (.alt 9 (.take 10 (.done)) .no)))) .no) (.no))) (.alt 8 (.alt 3 (.alt 4 (.take 5 (.take 6 (.take 7 (.alt 9 (.take 10 (.done)) .no)))) .no) .no) (.no)))))), (6, false, .take 0 (.take 1 (.take 2 (.take 3 (.take 4 (.take 5 (.take 6 (.alt 7 (.take 8 (.take 9 (.take 10 (.done)))) .no))))))))] := rfl
@[go_sem] theorem cx_law08_XjumpSteps_ob (d : Nat) : (cx_law08_XjumpSteps.ob).contains d = false := rfl
theorem cok_law08_XjumpSteps : COk Try.prog (cx_law08_XjumpSteps) := cok_of rfl (.cons ok_wide_Of (.cons ok_law08_awake (.cons ok_xjump_Jump (.cons ok_ref07_Jump (.nil))))) (.cons (fun _ => fn1_quiet) (.cons (fun _ => fn0_quiet) (.cons (fun _ => fn2i_quiet) (.cons (fun _ => fn2_quiet) (.nil))))) (.nil)
set_option maxHeartbeats 4000000 in
theorem ok_law08_XjumpSteps : Ok Try.prog 9 c_law08_XjumpSteps := by
  refine ok_fn2 cok_law08_XjumpSteps mixed Try.func9 rfl (by kernel_rfl) (by kernel_rfl) rfl ?_
  intro s n om hw _
  have hs : s.wf := wf_x hw
  have hn : n < 65536 := hw.2.1
  have q : n % 18446744073709551616 = n := Nat.mod_eq_of_lt (by omega)
  have d := tW_dec n
  rw [q] at d
  have z : (s.a = 0 ∧ s.b = 0 ∧ s.c = 0 ∧ s.d = 0) = (s = x0) := propext ⟨fun h => x4_ext h.1 h.2.1 h.2.2.1 h.2.2.2, fun h => by subst h; exact ⟨rfl, rfl, rfl, rfl⟩⟩
  rcases Decidable.em (s = x0) with hz | hz
  · simp (maxSteps := 10000000) only [go_sem, Try.f9, Nat.reduceEqDiff, Nat.reduceBEq, Int.reduceToNat, Nat.reducePow, Nat.reduceMod, Nat.reduceAdd, Nat.reduceSub, Nat.reduceMul, Nat.reduceDiv, Nat.reduceLeDiff, Int.reduceAdd, Int.reduceSub, Int.reduceMul, Int.reduceDiv, Int.reduceMod, Int.reduceLE, Int.reduceLT, Int.reduceNeg, Int.reduceEq, Int.cast_ofNat_Int, Int.natCast_zero, List.contains_cons, List.contains_nil, Bool.or_false, Bool.or_true, Bool.true_or, reduceCtorEq, or_false, or_true, false_or, true_or, and_false, false_and, ne_eq, List.take_zero, List.take_succ_cons, List.take_nil, List.drop_zero, List.drop_succ_cons, List.drop_nil, decide_true, decide_false, c_wide_Of, c_law08_awake, c_xjump_Jump, c_ref07_Jump, Nat.reduceLT, Nat.zero_lt_one, Nat.zero_add, Int.toNat_natCast, Nat.zero_le, Nat.le_refl, z, hz]
    exact fun _ h _ _ => h ⟨rfl, rfl, rfl, rfl⟩
  · simp (maxSteps := 10000000) only [go_sem, Try.f9, Nat.reduceEqDiff, Nat.reduceBEq, Int.reduceToNat, Nat.reducePow, Nat.reduceMod, Nat.reduceAdd, Nat.reduceSub, Nat.reduceMul, Nat.reduceDiv, Nat.reduceLeDiff, Int.reduceAdd, Int.reduceSub, Int.reduceMul, Int.reduceDiv, Int.reduceMod, Int.reduceLE, Int.reduceLT, Int.reduceNeg, Int.reduceEq, Int.cast_ofNat_Int, Int.natCast_zero, List.contains_cons, List.contains_nil, Bool.or_false, Bool.or_true, Bool.true_or, reduceCtorEq, or_false, or_true, false_or, true_or, and_false, false_and, ne_eq, List.take_zero, List.take_succ_cons, List.take_nil, List.drop_zero, List.drop_succ_cons, List.drop_nil, decide_true, decide_false, c_wide_Of, c_law08_awake, c_xjump_Jump, c_ref07_Jump, Nat.reduceLT, Nat.zero_lt_one, Nat.zero_add, Int.toNat_natCast, Nat.zero_le, Nat.le_refl, z, hz, q, d]
    intros; omega

noncomputable def c_law08_XjumpAdds : Cn := fn4 tX tX tW tW (fun _ _ _ _ => True) fun _ _ _ _ => .b true
noncomputable def cx_law08_XjumpAdds : Cx := { T := T, E := E, cs := [(39, c_law08_awake), (40, c_xjump_Jump), (48, c_xosh_Right), (52, c_wide_Add), (53, c_xosh_Add)], sch := [(12, false, .take 0 (.take 1 (.take 2 (.take 3 (.take 4 (.take 5 (.take 6 (.take 7 (.take 8 (.take 9 (.take 10 (.take 11 (.take 12 (.take 13 (.take 14 (.take 15 (.take 16 (.take 17 (.take 18 (.take 19 (.take 20 (.take 21 (.take 22 (.take 23 (.take 24 (.take 25 (.take 26 (.alt 27 (.take 28 (.take 29 (.take 30 (.done)))) .no))))))))))))))))))))))))))))], ob := [], qs := [39, 40, 48, 52, 53] }
@[go_sem] theorem cx_law08_XjumpAdds_md : cx_law08_XjumpAdds.md = 0 := rfl
@[go_sem] theorem cx_law08_XjumpAdds_T : cx_law08_XjumpAdds.T = T := rfl
@[go_sem] theorem cx_law08_XjumpAdds_E : cx_law08_XjumpAdds.E = E := rfl
@[go_sem] theorem cx_law08_XjumpAdds_cs : cx_law08_XjumpAdds.cs = [(39, c_law08_awake), (40, c_xjump_Jump), (48, c_xosh_Right), (52, c_wide_Add), (53, c_xosh_Add)] := rfl
@[go_sem] theorem cx_law08_XjumpAdds_sch : cx_law08_XjumpAdds.sch = [(12, false, .take 0 (.take 1 (.take 2 (.take 3 (.take 4 (.take 5 (.take 6 (.take 7 (.take 8 (.take 9 (.take 10 (.take 11 (.take 12 (.take 13 (.take 14 (.take 15 (.take 16 (.take 17 (.take 18 (.take 19 (.take 20 (.take 21 (.take 22 (.take 23 (.take 24 (.take 25 (.take 26 (.alt 27 (.take 28 (.take 29 (.take 30 (.done)))) .no))))))))))))))))))))))))))))] := rfl
@[go_sem] theorem cx_law08_XjumpAdds_ob (d : Nat) : (cx_law08_XjumpAdds.ob).contains d = false := rfl
theorem cok_law08_XjumpAdds : COk Try.prog (cx_law08_XjumpAdds) := cok_of rfl (.cons ok_law08_awake (.cons ok_xjump_Jump (.cons ok_xosh_Right (.cons ok_wide_Add (.cons ok_xosh_Add (.nil)))))) (.cons (fun _ => fn0_quiet) (.cons (fun _ => fn2i_quiet) (.cons (fun _ => fn1_quiet) (.cons (fun _ => fn2_quiet) (.cons (fun _ => fn2_quiet) (.nil)))))) (.nil)
set_option maxHeartbeats 4000000 in
theorem ok_law08_XjumpAdds : Ok Try.prog 12 c_law08_XjumpAdds := by
  refine ok_fn4 cok_law08_XjumpAdds mixed Try.func12 rfl (by kernel_rfl) (by kernel_rfl) rfl ?_
  intro s t n m om hw _
  have hs : s.wf := wf_x hw
  have ht : t.wf := wf_x hw.2
  have hn := wf_w hw.2.2
  have hm := wf_w hw.2.2.2
  rcases Decidable.em (s = x0) with h1 | h1
  · simp (maxSteps := 10000000) only [go_sem, Try.f12, Nat.reduceEqDiff, Nat.reduceBEq, Int.reduceToNat, Nat.reducePow, Nat.reduceMod, Nat.reduceAdd, Nat.reduceSub, Nat.reduceMul, Nat.reduceDiv, Nat.reduceLeDiff, Int.reduceAdd, Int.reduceSub, Int.reduceMul, Int.reduceDiv, Int.reduceMod, Int.reduceLE, Int.reduceLT, Int.reduceNeg, Int.reduceEq, Int.cast_ofNat_Int, Int.natCast_zero, List.contains_cons, List.contains_nil, Bool.or_false, Bool.or_true, Bool.true_or, reduceCtorEq, or_false, or_true, false_or, true_or, and_false, false_and, ne_eq, List.take_zero, List.take_succ_cons, List.take_nil, List.drop_zero, List.drop_succ_cons, List.drop_nil, decide_true, decide_false, c_law08_awake, c_xjump_Jump, c_xosh_Right, c_wide_Add, c_xosh_Add, Nat.reduceLT, Nat.zero_lt_one, Nat.zero_add, Int.toNat_natCast, Nat.zero_le, Nat.le_refl, h1]
  rcases Decidable.em (t = x0) with h2 | h2
  · simp (maxSteps := 10000000) only [go_sem, Try.f12, Nat.reduceEqDiff, Nat.reduceBEq, Int.reduceToNat, Nat.reducePow, Nat.reduceMod, Nat.reduceAdd, Nat.reduceSub, Nat.reduceMul, Nat.reduceDiv, Nat.reduceLeDiff, Int.reduceAdd, Int.reduceSub, Int.reduceMul, Int.reduceDiv, Int.reduceMod, Int.reduceLE, Int.reduceLT, Int.reduceNeg, Int.reduceEq, Int.cast_ofNat_Int, Int.natCast_zero, List.contains_cons, List.contains_nil, Bool.or_false, Bool.or_true, Bool.true_or, reduceCtorEq, or_false, or_true, false_or, true_or, and_false, false_and, ne_eq, List.take_zero, List.take_succ_cons, List.take_nil, List.drop_zero, List.drop_succ_cons, List.drop_nil, decide_true, decide_false, c_law08_awake, c_xjump_Jump, c_xosh_Right, c_wide_Add, c_xosh_Add, Nat.reduceLT, Nat.zero_lt_one, Nat.zero_add, Int.toNat_natCast, Nat.zero_le, Nat.le_refl, h1, h2]
  rcases Decidable.em (xadd s t = x0) with h3 | h3
  · simp (maxSteps := 10000000) only [go_sem, Try.f12, Nat.reduceEqDiff, Nat.reduceBEq, Int.reduceToNat, Nat.reducePow, Nat.reduceMod, Nat.reduceAdd, Nat.reduceSub, Nat.reduceMul, Nat.reduceDiv, Nat.reduceLeDiff, Int.reduceAdd, Int.reduceSub, Int.reduceMul, Int.reduceDiv, Int.reduceMod, Int.reduceLE, Int.reduceLT, Int.reduceNeg, Int.reduceEq, Int.cast_ofNat_Int, Int.natCast_zero, List.contains_cons, List.contains_nil, Bool.or_false, Bool.or_true, Bool.true_or, reduceCtorEq, or_false, or_true, false_or, true_or, and_false, false_and, ne_eq, List.take_zero, List.take_succ_cons, List.take_nil, List.drop_zero, List.drop_succ_cons, List.drop_nil, decide_true, decide_false, c_law08_awake, c_xjump_Jump, c_xosh_Right, c_wide_Add, c_xosh_Add, Nat.reduceLT, Nat.zero_lt_one, Nat.zero_add, Int.toNat_natCast, Nat.zero_le, Nat.le_refl, h1, h2, h3]
  rcases Decidable.em (340282366920938463463374607431768211456 ≤ n + m) with h4 | h4
  · simp (maxSteps := 10000000) only [go_sem, Try.f12, Nat.reduceEqDiff, Nat.reduceBEq, Int.reduceToNat, Nat.reducePow, Nat.reduceMod, Nat.reduceAdd, Nat.reduceSub, Nat.reduceMul, Nat.reduceDiv, Nat.reduceLeDiff, Int.reduceAdd, Int.reduceSub, Int.reduceMul, Int.reduceDiv, Int.reduceMod, Int.reduceLE, Int.reduceLT, Int.reduceNeg, Int.reduceEq, Int.cast_ofNat_Int, Int.natCast_zero, List.contains_cons, List.contains_nil, Bool.or_false, Bool.or_true, Bool.true_or, reduceCtorEq, or_false, or_true, false_or, true_or, and_false, false_and, ne_eq, List.take_zero, List.take_succ_cons, List.take_nil, List.drop_zero, List.drop_succ_cons, List.drop_nil, decide_true, decide_false, c_law08_awake, c_xjump_Jump, c_xosh_Right, c_wide_Add, c_xosh_Add, Nat.reduceLT, Nat.zero_lt_one, Nat.zero_add, Int.toNat_natCast, Nat.zero_le, Nat.le_refl, h1, h2, h3, h4]
  · have q : (n + m) % 340282366920938463463374607431768211456 = n + m := Nat.mod_eq_of_lt (by omega)
    have d := tW_dec (n + m)
    simp (maxSteps := 10000000) only [go_sem, Try.f12, Nat.reduceEqDiff, Nat.reduceBEq, Int.reduceToNat, Nat.reducePow, Nat.reduceMod, Nat.reduceAdd, Nat.reduceSub, Nat.reduceMul, Nat.reduceDiv, Nat.reduceLeDiff, Int.reduceAdd, Int.reduceSub, Int.reduceMul, Int.reduceDiv, Int.reduceMod, Int.reduceLE, Int.reduceLT, Int.reduceNeg, Int.reduceEq, Int.cast_ofNat_Int, Int.natCast_zero, List.contains_cons, List.contains_nil, Bool.or_false, Bool.or_true, Bool.true_or, reduceCtorEq, or_false, or_true, false_or, true_or, and_false, false_and, ne_eq, List.take_zero, List.take_succ_cons, List.take_nil, List.drop_zero, List.drop_succ_cons, List.drop_nil, decide_true, decide_false, c_law08_awake, c_xjump_Jump, c_xosh_Right, c_wide_Add, c_xosh_Add, Nat.reduceLT, Nat.zero_lt_one, Nat.zero_add, Int.toNat_natCast, Nat.zero_le, Nat.le_refl, h1, h2, h3, h4, q, d, xst_ne hs h1, xst_xst, xst_add hs ht]
end Go.Proofs.Ytaojebdjkpdcdaa.I
