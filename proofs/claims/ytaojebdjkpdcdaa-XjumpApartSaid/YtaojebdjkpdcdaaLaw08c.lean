/- XjumpApart, as a contract. -/
import Derived.Test.YtaojebdjkpdcdaaLaw08
import Derived.Test.YtaojebdjkpdcdaaXord
namespace Go.Proofs.Ytaojebdjkpdcdaa.I
open Go
set_option maxRecDepth 10000
set_option linter.unusedSimpArgs false
set_option linter.unusedVariables false

noncomputable def c_law08_XjumpApart : Cn := fn3 tX tW tW (fun _ _ _ => True) fun _ _ _ => .b true
noncomputable def cx_law08_XjumpApart : Cx := { T := T, E := E, cs := [(39, c_law08_awake), (40, c_xjump_Jump), (48, c_xosh_Right)], sch := [(7, false, .take 0 (.take 1 (.take 2 (.take 3 (.take 4 (.take 5 (.take 6 (.take 7 (.take 8 (.take 9 (.take 10 (.take 11 (.take 12 (.take 13 (.take 14 (.take 15 (.take 16 (.alt 17 (.take 18 (.take 19 (.done))) .no))))))))))))))))))], ob := [], qs := [39, 40, 48] }
@[go_sem] theorem cx_law08_XjumpApart_md : cx_law08_XjumpApart.md = 0 := rfl
@[go_sem] theorem cx_law08_XjumpApart_T : cx_law08_XjumpApart.T = T := rfl
@[go_sem] theorem cx_law08_XjumpApart_E : cx_law08_XjumpApart.E = E := rfl
@[go_sem] theorem cx_law08_XjumpApart_cs : cx_law08_XjumpApart.cs = [(39, c_law08_awake), (40, c_xjump_Jump), (48, c_xosh_Right)] := rfl
@[go_sem] theorem cx_law08_XjumpApart_sch : cx_law08_XjumpApart.sch = [(7, false, .take 0 (.take 1 (.take 2 (.take 3 (.take 4 (.take 5 (.take 6 (.take 7 (.take 8 (.take 9 (.take 10 (.take 11 (.take 12 (.take 13 (.take 14 (.take 15 (.take 16 (.alt 17 (.take 18 (.take 19 (.done))) .no))))))))))))))))))] := rfl
@[go_sem] theorem cx_law08_XjumpApart_ob (d : Nat) : (cx_law08_XjumpApart.ob).contains d = false := rfl
theorem cok_law08_XjumpApart : COk Try.prog (cx_law08_XjumpApart) := cok_of rfl (.cons ok_law08_awake (.cons ok_xjump_Jump (.cons ok_xosh_Right (.nil)))) (.cons (fun _ => fn0_quiet) (.cons (fun _ => fn2i_quiet) (.cons (fun _ => fn1_quiet) (.nil)))) (.nil)
set_option maxHeartbeats 4000000 in
theorem ok_law08_XjumpApart : Ok Try.prog 10 c_law08_XjumpApart := by
  refine ok_fn3 cok_law08_XjumpApart mixed Try.func10 rfl (by kernel_rfl) (by kernel_rfl) rfl ?_
  intro s n m om hw _
  have hs : s.wf := wf_x hw
  have hn := wf_w hw.2
  have hm := wf_w hw.2.2
  rcases Decidable.em (s = x0) with h1 | h1
  · simp (maxSteps := 10000000) only [go_sem, Try.f10, Nat.reduceEqDiff, Nat.reduceBEq, Int.reduceToNat, Nat.reducePow, Nat.reduceMod, Nat.reduceAdd, Nat.reduceSub, Nat.reduceMul, Nat.reduceDiv, Nat.reduceLeDiff, Int.reduceAdd, Int.reduceSub, Int.reduceMul, Int.reduceDiv, Int.reduceMod, Int.reduceLE, Int.reduceLT, Int.reduceNeg, Int.reduceEq, Int.cast_ofNat_Int, Int.natCast_zero, List.contains_cons, List.contains_nil, Bool.or_false, Bool.or_true, Bool.true_or, reduceCtorEq, or_false, or_true, false_or, true_or, and_false, false_and, ne_eq, List.take_zero, List.take_succ_cons, List.take_nil, List.drop_zero, List.drop_succ_cons, List.drop_nil, decide_true, decide_false, c_law08_awake, c_xjump_Jump, c_xosh_Right, Nat.reduceLT, Nat.zero_lt_one, Nat.zero_add, Int.toNat_natCast, Nat.zero_le, Nat.le_refl, h1]
  · have e := xst_inj hs h1 hn hm
    have ne := xst_ne hs h1 n
    have x4 : ((xst s n).a = (xst s m).a ∧ (xst s n).b = (xst s m).b ∧ (xst s n).c = (xst s m).c ∧ (xst s n).d = (xst s m).d) = (n = m) :=
      propext ⟨fun h => e.1 (x4_ext h.1 h.2.1 h.2.2.1 h.2.2.2), fun h => by rw [h]; exact ⟨rfl, rfl, rfl, rfl⟩⟩
    have w2 : (n / 18446744073709551616 = m / 18446744073709551616 ∧ n % 18446744073709551616 = m % 18446744073709551616) = (n = m) := propext ⟨fun h => by omega, fun h => by rw [h]; exact ⟨rfl, rfl⟩⟩
    simp (maxSteps := 10000000) only [go_sem, Try.f10, Nat.reduceEqDiff, Nat.reduceBEq, Int.reduceToNat, Nat.reducePow, Nat.reduceMod, Nat.reduceAdd, Nat.reduceSub, Nat.reduceMul, Nat.reduceDiv, Nat.reduceLeDiff, Int.reduceAdd, Int.reduceSub, Int.reduceMul, Int.reduceDiv, Int.reduceMod, Int.reduceLE, Int.reduceLT, Int.reduceNeg, Int.reduceEq, Int.cast_ofNat_Int, Int.natCast_zero, List.contains_cons, List.contains_nil, Bool.or_false, Bool.or_true, Bool.true_or, reduceCtorEq, or_false, or_true, false_or, true_or, and_false, false_and, ne_eq, List.take_zero, List.take_succ_cons, List.take_nil, List.drop_zero, List.drop_succ_cons, List.drop_nil, decide_true, decide_false, c_law08_awake, c_xjump_Jump, c_xosh_Right, Nat.reduceLT, Nat.zero_lt_one, Nat.zero_add, Int.toNat_natCast, Nat.zero_le, Nat.le_refl, h1, ne, x4, w2]
end Go.Proofs.Ytaojebdjkpdcdaa.I
