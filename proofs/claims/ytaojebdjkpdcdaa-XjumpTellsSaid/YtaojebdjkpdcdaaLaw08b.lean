/- XjumpTells, as a contract. -/
import Derived.Test.YtaojebdjkpdcdaaLaw08
import Derived.Test.YtaojebdjkpdcdaaRef8y
namespace Go.Proofs.Ytaojebdjkpdcdaa.I
open Go
set_option maxRecDepth 10000
set_option linter.unusedSimpArgs false
set_option linter.unusedVariables false

theorem x0z : (x0.a = 0 ∧ x0.b = 0 ∧ x0.c = 0 ∧ x0.d = 0) = True := eq_true ⟨rfl, rfl, rfl, rfl⟩
noncomputable def c_law08_XjumpTells : Cn := fn4 tX tW tZ tU (fun _ _ _ _ => True) fun _ _ _ _ => .b true
noncomputable def cx_law08_XjumpTells : Cx := { T := T, E := E, cs := [(18, c_ref02_Parts), (39, c_law08_awake), (40, c_xjump_Jump), (41, c_xjump_Powers), (42, c_xjump_At), (43, c_ref08_At), (44, c_ref08_Powers), (45, c_ref08_Jump), (46, c_ref01_List)], sch := [(8, false, .take 0 (.take 1 (.take 3 (.take 5 (.alt 2 (.alt 4 (.alt 6 (.take 7 (.done)) .no) .no) .no))))), (15, false, .take 0 (.take 1 (.take 2 (.take 3 (.take 4 (.take 5 (.alt 6 (.take 7 (.take 8 (.done))) .no))))))), (17, false, .take 0 (.take 1 (.take 2 (.take 3 (.take 4 (.take 5 (.alt 6 (.alt 7 (.take 8 (.take 9 (.take 10 (.done)))) .no) .no)))))))], ob := [], qs := [18, 39, 40, 41, 42, 43, 44, 45, 46] }
@[go_sem] theorem cx_law08_XjumpTells_md : cx_law08_XjumpTells.md = 0 := rfl
@[go_sem] theorem cx_law08_XjumpTells_T : cx_law08_XjumpTells.T = T := rfl
@[go_sem] theorem cx_law08_XjumpTells_E : cx_law08_XjumpTells.E = E := rfl
@[go_sem] theorem cx_law08_XjumpTells_cs : cx_law08_XjumpTells.cs = [(18, c_ref02_Parts), (39, c_law08_awake), (40, c_xjump_Jump), (41, c_xjump_Powers), (42, c_xjump_At), (43, c_ref08_At), (44, c_ref08_Powers), (45, c_ref08_Jump), (46, c_ref01_List)] := rfl
@[go_sem] theorem cx_law08_XjumpTells_sch : cx_law08_XjumpTells.sch = [(8, false, .take 0 (.take 1 (.take 3 (.take 5 (.alt 2 (.alt 4 (.alt 6 (.take 7 (.done)) .no) .no) .no))))), (15, false, .take 0 (.take 1 (.take 2 (.take 3 (.take 4 (.take 5 (.alt 6 (.take 7 (.take 8 (.done))) .no))))))), (17, false, .take 0 (.take 1 (.take 2 (.take 3 (.take 4 (.take 5 (.alt 6 (.alt 7 (.take 8 (.take 9 (.take 10 (.done)))) .no) .no)))))))] := rfl
@[go_sem] theorem cx_law08_XjumpTells_ob (d : Nat) : (cx_law08_XjumpTells.ob).contains d = false := rfl
theorem cok_law08_XjumpTells : COk Try.prog (cx_law08_XjumpTells) := cok_of rfl (.cons ok_ref02_Parts (.cons ok_law08_awake (.cons ok_xjump_Jump (.cons ok_xjump_Powers (.cons ok_xjump_At (.cons ok_ref08_At (.cons ok_ref08_Powers (.cons ok_ref08_Jump (.cons ok_ref01_List (.nil)))))))))) (.cons (fun _ => fn1_quiet) (.cons (fun _ => fn0_quiet) (.cons (fun _ => fn2i_quiet) (.cons (fun _ => fn2j_quiet) (.cons (fun _ => fn2_quiet) (.cons (fun _ => fn2_quiet) (.cons (fun _ => fn2_quiet) (.cons (fun _ => fn2_quiet) (.cons (fun _ => fn1_quiet) (.nil)))))))))) (.nil)
set_option maxHeartbeats 8000000 in
theorem ok_law08_XjumpTells : Ok Try.prog 8 c_law08_XjumpTells := by
  refine ok_fn4 cok_law08_XjumpTells mixed Try.func8 rfl (by kernel_rfl) (by kernel_rfl) rfl ?_
  intro s n w p om hw _
  have hs : s.wf := wf_x hw
  have hn := wf_w hw.2
  have hq : i64ok w := hw.2.2.1
  unfold i64ok at hq
  have h1 := bl_pv (wf_u ⟨hw.2.2.2.1, trivial⟩).2
  have zz : (s.a = 0 ∧ s.b = 0 ∧ s.c = 0 ∧ s.d = 0) = (s = x0) := propext ⟨fun h => x4_ext h.1 h.2.1 h.2.2.1 h.2.2.2, fun h => by subst h; exact ⟨rfl, rfl, rfl, rfl⟩⟩
  obtain ⟨P, hP⟩ : ∃ P, pv p = P := ⟨_, rfl⟩
  rw [hP] at h1
  have hat : xat P s (bl P) = act P s := rfl
  rcases Decidable.em (5 < p.length) with hl | hl
  · have hl' : (5 : Int) < p.length := by omega
    simp (maxSteps := 10000000) only [go_sem, Try.f8, Nat.reduceEqDiff, Nat.reduceBEq, Int.reduceToNat, Nat.reducePow, Nat.reduceMod, Nat.reduceAdd, Nat.reduceSub, Nat.reduceMul, Nat.reduceDiv, Nat.reduceLeDiff, Int.reduceAdd, Int.reduceSub, Int.reduceMul, Int.reduceDiv, Int.reduceMod, Int.reduceLE, Int.reduceLT, Int.reduceNeg, Int.reduceEq, Int.cast_ofNat_Int, Int.natCast_zero, List.contains_cons, List.contains_nil, Bool.or_false, Bool.or_true, Bool.true_or, reduceCtorEq, or_false, or_true, false_or, true_or, and_false, false_and, ne_eq, List.take_zero, List.take_succ_cons, List.take_nil, List.drop_zero, List.drop_succ_cons, List.drop_nil, decide_true, decide_false, c_ref02_Parts, c_law08_awake, c_xjump_Jump, c_xjump_Powers, c_xjump_At, c_ref08_At, c_ref08_Powers, c_ref08_Jump, c_ref01_List, Nat.reduceLT, Nat.zero_lt_one, Nat.zero_add, Int.toNat_natCast, Nat.zero_le, Nat.le_refl, hl']
  have hl' : ¬ (5 : Int) < p.length := by omega
  rcases Decidable.em (40 < w ∧ w ≤ 2048) with g | g
  · obtain ⟨g1, g2⟩ := g
    simp (maxSteps := 10000000) only [go_sem, Try.f8, Nat.reduceEqDiff, Nat.reduceBEq, Int.reduceToNat, Nat.reducePow, Nat.reduceMod, Nat.reduceAdd, Nat.reduceSub, Nat.reduceMul, Nat.reduceDiv, Nat.reduceLeDiff, Int.reduceAdd, Int.reduceSub, Int.reduceMul, Int.reduceDiv, Int.reduceMod, Int.reduceLE, Int.reduceLT, Int.reduceNeg, Int.reduceEq, Int.cast_ofNat_Int, Int.natCast_zero, List.contains_cons, List.contains_nil, Bool.or_false, Bool.or_true, Bool.true_or, reduceCtorEq, or_false, or_true, false_or, true_or, and_false, false_and, ne_eq, List.take_zero, List.take_succ_cons, List.take_nil, List.drop_zero, List.drop_succ_cons, List.drop_nil, decide_true, decide_false, c_ref02_Parts, c_law08_awake, c_xjump_Jump, c_xjump_Powers, c_xjump_At, c_ref08_At, c_ref08_Powers, c_ref08_Jump, c_ref01_List, Nat.reduceLT, Nat.zero_lt_one, Nat.zero_add, Int.toNat_natCast, Nat.zero_le, Nat.le_refl, hl', g1, g2]
  rcases Decidable.em (s = x0) with h0 | h0
  · subst h0
    simp (maxSteps := 10000000) only [go_sem, Try.f8, Nat.reduceEqDiff, Nat.reduceBEq, Int.reduceToNat, Nat.reducePow, Nat.reduceMod, Nat.reduceAdd, Nat.reduceSub, Nat.reduceMul, Nat.reduceDiv, Nat.reduceLeDiff, Int.reduceAdd, Int.reduceSub, Int.reduceMul, Int.reduceDiv, Int.reduceMod, Int.reduceLE, Int.reduceLT, Int.reduceNeg, Int.reduceEq, Int.cast_ofNat_Int, Int.natCast_zero, List.contains_cons, List.contains_nil, Bool.or_false, Bool.or_true, Bool.true_or, reduceCtorEq, or_false, or_true, false_or, true_or, and_false, false_and, ne_eq, List.take_zero, List.take_succ_cons, List.take_nil, List.drop_zero, List.drop_succ_cons, List.drop_nil, decide_true, decide_false, c_ref02_Parts, c_law08_awake, c_xjump_Jump, c_xjump_Powers, c_xjump_At, c_ref08_At, c_ref08_Powers, c_ref08_Jump, c_ref01_List, Nat.reduceLT, Nat.zero_lt_one, Nat.zero_add, Int.toNat_natCast, Nat.zero_le, Nat.le_refl, hl', hP, hat, bv_pb, x0z]
    clear hw
    repeat' (first | with_reducible refine And.intro ?_ ?_ | with_reducible intro _)
    all_goals first | omega | trivial | rfl
  rcases Decidable.em (w < 0) with g3 | g3
  · have g4 : ¬ 40 < w := by omega
    have g5 : ¬ 2048 < w := by omega
    simp (maxSteps := 10000000) only [go_sem, Try.f8, Nat.reduceEqDiff, Nat.reduceBEq, Int.reduceToNat, Nat.reducePow, Nat.reduceMod, Nat.reduceAdd, Nat.reduceSub, Nat.reduceMul, Nat.reduceDiv, Nat.reduceLeDiff, Int.reduceAdd, Int.reduceSub, Int.reduceMul, Int.reduceDiv, Int.reduceMod, Int.reduceLE, Int.reduceLT, Int.reduceNeg, Int.reduceEq, Int.cast_ofNat_Int, Int.natCast_zero, List.contains_cons, List.contains_nil, Bool.or_false, Bool.or_true, Bool.true_or, reduceCtorEq, or_false, or_true, false_or, true_or, and_false, false_and, ne_eq, List.take_zero, List.take_succ_cons, List.take_nil, List.drop_zero, List.drop_succ_cons, List.drop_nil, decide_true, decide_false, c_ref02_Parts, c_law08_awake, c_xjump_Jump, c_xjump_Powers, c_xjump_At, c_ref08_At, c_ref08_Powers, c_ref08_Jump, c_ref01_List, Nat.reduceLT, Nat.zero_lt_one, Nat.zero_add, Int.toNat_natCast, Nat.zero_le, Nat.le_refl, hl', h0, zz, hP, hat, bv_pb, bv_bitsL, Nat.reducePow, Nat.mod_eq_of_lt hn, g3, g4, g5]
    clear hw
    repeat' (first | with_reducible refine And.intro ?_ ?_ | with_reducible intro _)
    all_goals first | omega | trivial | rfl
  rcases Decidable.em (2048 < w) with g4 | g4
  · have g5 : 40 < w := by omega
    have g6 : ¬ w ≤ 2048 := by omega
    simp (maxSteps := 10000000) only [go_sem, Try.f8, Nat.reduceEqDiff, Nat.reduceBEq, Int.reduceToNat, Nat.reducePow, Nat.reduceMod, Nat.reduceAdd, Nat.reduceSub, Nat.reduceMul, Nat.reduceDiv, Nat.reduceLeDiff, Int.reduceAdd, Int.reduceSub, Int.reduceMul, Int.reduceDiv, Int.reduceMod, Int.reduceLE, Int.reduceLT, Int.reduceNeg, Int.reduceEq, Int.cast_ofNat_Int, Int.natCast_zero, List.contains_cons, List.contains_nil, Bool.or_false, Bool.or_true, Bool.true_or, reduceCtorEq, or_false, or_true, false_or, true_or, and_false, false_and, ne_eq, List.take_zero, List.take_succ_cons, List.take_nil, List.drop_zero, List.drop_succ_cons, List.drop_nil, decide_true, decide_false, c_ref02_Parts, c_law08_awake, c_xjump_Jump, c_xjump_Powers, c_xjump_At, c_ref08_At, c_ref08_Powers, c_ref08_Jump, c_ref01_List, Nat.reduceLT, Nat.zero_lt_one, Nat.zero_add, Int.toNat_natCast, Nat.zero_le, Nat.le_refl, hl', h0, zz, hP, hat, bv_pb, bv_bitsL, Nat.reducePow, Nat.mod_eq_of_lt hn, g3, g4, g5, g6]
    clear hw
    repeat' (first | with_reducible refine And.intro ?_ ?_ | with_reducible intro _)
    all_goals first | omega | trivial | rfl
  · have g5 : ¬ 40 < w := by omega
    simp (maxSteps := 10000000) only [go_sem, Try.f8, Nat.reduceEqDiff, Nat.reduceBEq, Int.reduceToNat, Nat.reducePow, Nat.reduceMod, Nat.reduceAdd, Nat.reduceSub, Nat.reduceMul, Nat.reduceDiv, Nat.reduceLeDiff, Int.reduceAdd, Int.reduceSub, Int.reduceMul, Int.reduceDiv, Int.reduceMod, Int.reduceLE, Int.reduceLT, Int.reduceNeg, Int.reduceEq, Int.cast_ofNat_Int, Int.natCast_zero, List.contains_cons, List.contains_nil, Bool.or_false, Bool.or_true, Bool.true_or, reduceCtorEq, or_false, or_true, false_or, true_or, and_false, false_and, ne_eq, List.take_zero, List.take_succ_cons, List.take_nil, List.drop_zero, List.drop_succ_cons, List.drop_nil, decide_true, decide_false, c_ref02_Parts, c_law08_awake, c_xjump_Jump, c_xjump_Powers, c_xjump_At, c_ref08_At, c_ref08_Powers, c_ref08_Jump, c_ref01_List, Nat.reduceLT, Nat.zero_lt_one, Nat.zero_add, Int.toNat_natCast, Nat.zero_le, Nat.le_refl, hl', h0, zz, hP, hat, bv_pb, bv_bitsL, Nat.reducePow, Nat.mod_eq_of_lt hn, g3, g4, g5]
    clear hw
    repeat' (first | with_reducible refine And.intro ?_ ?_ | with_reducible intro _)
    all_goals first | omega | trivial | rfl
end Go.Proofs.Ytaojebdjkpdcdaa.I
