/- GfpowTells, as a contract. -/
import Derived.Test.YtaojebdjkpdcdaaLaw04
namespace Go.Proofs.Ytaojebdjkpdcdaa.I
open Go
set_option maxRecDepth 10000
set_option linter.unusedSimpArgs false
set_option linter.unusedVariables false

def c_law04_GfpowTells : Cn := fn4 tU tU tW tZ (fun _ _ _ _ => True) fun _ _ _ _ => .b true
noncomputable def cx_law04_GfpowTells : Cx := { T := T, cs := [(13, c_law04_awake), (14, c_law04_large), (15, c_gfpow_Pow), (16, c_gfpow_X), (17, c_gfpow_Squares), (18, c_ref02_Parts), (19, c_ref02_Words), (20, c_ref02_Of), (21, c_ref04_Pow), (22, c_gfpow_Rounds), (23, c_ref01_Len), (24, c_ref03_Mod), (25, c_ref02_Mul)], sch := [(11, false, .take 0 (.take 1 (.take 2 (.take 3 (.alt 4 (.alt 5 (.alt 6 (.take 7 (.take 8 (.take 9 (.take 10 (.take 11 (.take 12 (.take 13 (.take 15 (.take 16 (.alt 14 (.alt 17 (.alt 18 (.alt 19 (.take 20 (.take 21 (.take 22 (.take 23 (.take 24 (.take 25 (.take 26 (.take 27 (.take 29 (.alt 28 (.alt 30 (.take 31 (.take 32 (.done))) .no) .no)))))))))) .no) .no) .no) .no)))))))))) .no) .no) .no)))))], ob := [], qs := [13, 14, 15, 16, 17, 18, 19, 20, 21, 22, 23, 24, 25] }
@[go_sem] theorem cx_law04_GfpowTells_md : cx_law04_GfpowTells.md = 0 := rfl
@[go_sem] theorem cx_law04_GfpowTells_T : cx_law04_GfpowTells.T = T := rfl
@[go_sem] theorem cx_law04_GfpowTells_cs : cx_law04_GfpowTells.cs = [(13, c_law04_awake), (14, c_law04_large), (15, c_gfpow_Pow), (16, c_gfpow_X), (17, c_gfpow_Squares), (18, c_ref02_Parts), (19, c_ref02_Words), (20, c_ref02_Of), (21, c_ref04_Pow), (22, c_gfpow_Rounds), (23, c_ref01_Len), (24, c_ref03_Mod), (25, c_ref02_Mul)] := rfl
@[go_sem] theorem cx_law04_GfpowTells_sch : cx_law04_GfpowTells.sch = [(11, false, .take 0 (.take 1 (.take 2 (.take 3 (.alt 4 (.alt 5 (.alt 6 (.take 7 (.take 8 (.take 9 (.take 10 (.take 11 (.take 12 (.take 13 (.take 15 (.take 16 (.alt 14 (.alt 17 (.alt 18 (.alt 19 (.take 20 (.take 21 (.take 22 (.take 23 (.take 24 (.take 25 (.take 26 (.take 27 (.take 29 (.alt 28 (.alt 30 (.take 31 (.take 32 (.done))) .no) .no)))))))))) .no) .no) .no) .no)))))))))) .no) .no) .no)))))] := rfl
@[go_sem] theorem cx_law04_GfpowTells_ob (d : Nat) : (cx_law04_GfpowTells.ob).contains d = false := rfl
theorem cok_law04_GfpowTells : COk Try.prog (cx_law04_GfpowTells) := cok_of rfl (.cons ok_law04_awake (.cons ok_law04_large (.cons ok_gfpow_Pow (.cons ok_gfpow_X (.cons ok_gfpow_Squares (.cons ok_ref02_Parts (.cons ok_ref02_Words (.cons ok_ref02_Of (.cons ok_ref04_Pow (.cons ok_gfpow_Rounds (.cons ok_ref01_Len (.cons ok_ref03_Mod (.cons ok_ref02_Mul (.nil)))))))))))))) (.cons (fun _ => fn0_quiet) (.cons (fun _ => fn1_quiet) (.cons (fun _ => fn3i_quiet) (.cons (fun _ => fn2i_quiet) (.cons (fun _ => fn3j_quiet) (.cons (fun _ => fn1_quiet) (.cons (fun _ => fn2_quiet) (.cons (fun _ => fn1_quiet) (.cons (fun _ => fn3_quiet) (.cons (fun _ => fn1_quiet) (.cons (fun _ => fn1_quiet) (.cons (fun _ => fn2_quiet) (.cons (fun _ => fn2_quiet) (.nil)))))))))))))) (.nil)
set_option maxHeartbeats 8000000 in
theorem ok_law04_GfpowTells : Ok Try.prog 3 c_law04_GfpowTells := by
  refine ok_fn4 cok_law04_GfpowTells mixed Try.func3 rfl (by kernel_rfl) (by kernel_rfl) rfl ?_
  intro a p e n om hw _
  have h1 := bl_pv (wf_u ⟨hw.1, trivial⟩).2
  have h2 := bl_pv (wf_u ⟨hw.2.1, trivial⟩).2
  have he := wf_w hw.2.2
  have hn : i64ok n := hw.2.2.2.1
  unfold i64ok at hn
  have hbe : bl e ≤ 128 := bl_lt.2 he
  obtain ⟨A, hA⟩ : ∃ A, pv a = A := ⟨_, rfl⟩
  obtain ⟨P, hP⟩ : ∃ P, pv p = P := ⟨_, rfl⟩
  rw [hA] at h1
  rw [hP] at h2
  have z1 := bl_eq_zero (x := P)
  cases hL : ([a, p].any fun xs => decide (4 < xs.length)) with
  | true =>
    simp (maxSteps := 10000000) only [go_sem, Try.f3, Nat.reduceEqDiff, Nat.reduceBEq, Int.reduceToNat, Nat.reducePow, Nat.reduceMod, Nat.reduceAdd, Nat.reduceSub, Nat.reduceMul, Nat.reduceDiv, Nat.reduceLeDiff, Int.reduceAdd, Int.reduceSub, Int.reduceMul, Int.reduceDiv, Int.reduceMod, Int.reduceLE, Int.reduceLT, Int.reduceNeg, Int.reduceEq, Int.cast_ofNat_Int, Int.natCast_zero, List.contains_cons, List.contains_nil, Bool.or_false, Bool.or_true, Bool.true_or, reduceCtorEq, or_false, or_true, false_or, true_or, and_false, false_and, ne_eq, List.take_zero, List.take_succ_cons, List.take_nil, List.drop_zero, List.drop_succ_cons, List.drop_nil, decide_true, decide_false, c_law04_awake, c_law04_large, c_gfpow_Pow, c_gfpow_X, c_gfpow_Squares, c_ref02_Parts, c_ref02_Words, c_ref02_Of, c_ref04_Pow, c_gfpow_Rounds, c_ref01_Len, c_ref03_Mod, c_ref02_Mul, hL]
    rfl
  | false =>
  have hla : a.length ≤ 4 ∧ p.length ≤ 4 := by simpa using hL
  obtain ⟨l1, l2⟩ := hla
  rcases Decidable.em (40 < n ∧ n ≤ 2048) with g | g
  · obtain ⟨g1, g2⟩ := g
    simp (maxSteps := 10000000) only [go_sem, Try.f3, Nat.reduceEqDiff, Nat.reduceBEq, Int.reduceToNat, Nat.reducePow, Nat.reduceMod, Nat.reduceAdd, Nat.reduceSub, Nat.reduceMul, Nat.reduceDiv, Nat.reduceLeDiff, Int.reduceAdd, Int.reduceSub, Int.reduceMul, Int.reduceDiv, Int.reduceMod, Int.reduceLE, Int.reduceLT, Int.reduceNeg, Int.reduceEq, Int.cast_ofNat_Int, Int.natCast_zero, List.contains_cons, List.contains_nil, Bool.or_false, Bool.or_true, Bool.true_or, reduceCtorEq, or_false, or_true, false_or, true_or, and_false, false_and, ne_eq, List.take_zero, List.take_succ_cons, List.take_nil, List.drop_zero, List.drop_succ_cons, List.drop_nil, decide_true, decide_false, c_law04_awake, c_law04_large, c_gfpow_Pow, c_gfpow_X, c_gfpow_Squares, c_ref02_Parts, c_ref02_Words, c_ref02_Of, c_ref04_Pow, c_gfpow_Rounds, c_ref01_Len, c_ref03_Mod, c_ref02_Mul, hL, g1, g2]
    rfl
  have b2 : bl 2 = 2 := rfl
  have e1 : upP 1 1 = 2 := rfl
  rcases Decidable.em (P = 0) with hz | hz
  · simp (maxSteps := 10000000) only [go_sem, Try.f3, Nat.reduceEqDiff, Nat.reduceBEq, Int.reduceToNat, Nat.reducePow, Nat.reduceMod, Nat.reduceAdd, Nat.reduceSub, Nat.reduceMul, Nat.reduceDiv, Nat.reduceLeDiff, Int.reduceAdd, Int.reduceSub, Int.reduceMul, Int.reduceDiv, Int.reduceMod, Int.reduceLE, Int.reduceLT, Int.reduceNeg, Int.reduceEq, Int.cast_ofNat_Int, Int.natCast_zero, List.contains_cons, List.contains_nil, Bool.or_false, Bool.or_true, Bool.true_or, reduceCtorEq, or_false, or_true, false_or, true_or, and_false, false_and, ne_eq, List.take_zero, List.take_succ_cons, List.take_nil, List.drop_zero, List.drop_succ_cons, List.drop_nil, decide_true, decide_false, c_law04_awake, c_law04_large, c_gfpow_Pow, c_gfpow_X, c_gfpow_Squares, c_ref02_Parts, c_ref02_Words, c_ref02_Of, c_ref04_Pow, c_gfpow_Rounds, c_ref01_Len, c_ref03_Mod, c_ref02_Mul, hL, hA, hP, hz, bl_zero, e1]
    clear hw hA hP hL
    repeat' (first | with_reducible refine And.intro ?_ ?_ | with_reducible intro _)
    all_goals first | omega | trivial | rfl
  have c1 := pwr_lt A hz e
  have c2 := pwr_lt 2 hz e
  have c3 := sqn_lt A hz n.toNat
  have c4 := rm_lt A hz
  have hn0 : (bl P : Int) = 0 ↔ False := iff_false_intro (by omega)
  rcases Decidable.em (n < 0) with g3 | g3
  · have g4 : ¬ 2048 < n := by omega
    have g5 : ¬ 40 < n := by omega
    simp (maxSteps := 10000000) only [go_sem, Try.f3, Nat.reduceEqDiff, Nat.reduceBEq, Int.reduceToNat, Nat.reducePow, Nat.reduceMod, Nat.reduceAdd, Nat.reduceSub, Nat.reduceMul, Nat.reduceDiv, Nat.reduceLeDiff, Int.reduceAdd, Int.reduceSub, Int.reduceMul, Int.reduceDiv, Int.reduceMod, Int.reduceLE, Int.reduceLT, Int.reduceNeg, Int.reduceEq, Int.cast_ofNat_Int, Int.natCast_zero, List.contains_cons, List.contains_nil, Bool.or_false, Bool.or_true, Bool.true_or, reduceCtorEq, or_false, or_true, false_or, true_or, and_false, false_and, ne_eq, List.take_zero, List.take_succ_cons, List.take_nil, List.drop_zero, List.drop_succ_cons, List.drop_nil, decide_true, decide_false, c_law04_awake, c_law04_large, c_gfpow_Pow, c_gfpow_X, c_gfpow_Squares, c_ref02_Parts, c_ref02_Words, c_ref02_Of, c_ref04_Pow, c_gfpow_Rounds, c_ref01_Len, c_ref03_Mod, c_ref02_Mul, hL, hA, hP, hz, g3, g4, g5, e1, hn0, or_false, true_or]
    clear hw hA hP hL hn0
    repeat' (first | with_reducible refine And.intro ?_ ?_ | with_reducible intro _)
    all_goals first | omega | trivial | rfl
  rcases Decidable.em (2048 < n) with g4 | g4
  · have g5 : 40 < n := by omega
    have g6 : ¬ n ≤ 2048 := by omega
    simp (maxSteps := 10000000) only [go_sem, Try.f3, Nat.reduceEqDiff, Nat.reduceBEq, Int.reduceToNat, Nat.reducePow, Nat.reduceMod, Nat.reduceAdd, Nat.reduceSub, Nat.reduceMul, Nat.reduceDiv, Nat.reduceLeDiff, Int.reduceAdd, Int.reduceSub, Int.reduceMul, Int.reduceDiv, Int.reduceMod, Int.reduceLE, Int.reduceLT, Int.reduceNeg, Int.reduceEq, Int.cast_ofNat_Int, Int.natCast_zero, List.contains_cons, List.contains_nil, Bool.or_false, Bool.or_true, Bool.true_or, reduceCtorEq, or_false, or_true, false_or, true_or, and_false, false_and, ne_eq, List.take_zero, List.take_succ_cons, List.take_nil, List.drop_zero, List.drop_succ_cons, List.drop_nil, decide_true, decide_false, c_law04_awake, c_law04_large, c_gfpow_Pow, c_gfpow_X, c_gfpow_Squares, c_ref02_Parts, c_ref02_Words, c_ref02_Of, c_ref04_Pow, c_gfpow_Rounds, c_ref01_Len, c_ref03_Mod, c_ref02_Mul, hL, hA, hP, hz, g3, g4, g5, g6, e1, hn0, or_true, false_or]
    clear hw hA hP hL hn0
    repeat' (first | with_reducible refine And.intro ?_ ?_ | with_reducible intro _)
    all_goals first | omega | trivial | rfl
  have g5 : ¬ 40 < n := by omega
  obtain ⟨N, rfl⟩ := Int.eq_ofNat_of_zero_le (show 0 ≤ n by omega)
  rw [Int.toNat_natCast] at c3
  simp (maxSteps := 10000000) only [go_sem, Try.f3, Nat.reduceEqDiff, Nat.reduceBEq, Int.reduceToNat, Nat.reducePow, Nat.reduceMod, Nat.reduceAdd, Nat.reduceSub, Nat.reduceMul, Nat.reduceDiv, Nat.reduceLeDiff, Int.reduceAdd, Int.reduceSub, Int.reduceMul, Int.reduceDiv, Int.reduceMod, Int.reduceLE, Int.reduceLT, Int.reduceNeg, Int.reduceEq, Int.cast_ofNat_Int, Int.natCast_zero, List.contains_cons, List.contains_nil, Bool.or_false, Bool.or_true, Bool.true_or, reduceCtorEq, or_false, or_true, false_or, true_or, and_false, false_and, ne_eq, List.take_zero, List.take_succ_cons, List.take_nil, List.drop_zero, List.drop_succ_cons, List.drop_nil, decide_true, decide_false, c_law04_awake, c_law04_large, c_gfpow_Pow, c_gfpow_X, c_gfpow_Squares, c_ref02_Parts, c_ref02_Words, c_ref02_Of, c_ref04_Pow, c_gfpow_Rounds, c_ref01_Len, c_ref03_Mod, c_ref02_Mul, hL, hA, hP, hz, g3, g4, g5, e1, hn0, or_false, false_or]
  repeat' (first | with_reducible refine And.intro ?_ ?_ | with_reducible intro _)
  all_goals first | omega | rfl | skip
  all_goals
    refine ⟨Nat, fun k => ⟨[.u, .u, .u, .u, .u, .u, .u, .u, .b false, .u, .u, .u, .u, vP (sqn A P N), .z 0, .u, vB P, vB (sqn A P k), .u, .u, .u, .u, .u, .u, .u, .u, .u, .u, .u, .u, .u, .u, .u, .u, .u, .u, .u, .u, .u, .u, .u, .u, .u, .u, .u, .u, .u, .u, .u, .u, .u, .u, .u, .u, .u, .u, .u, .u, .u, .u, .u, .u, .u, .u, .u, .u, .u, .u, .u, .u, .u, .u, .u, .u, .u, .u, .u, .u, .u, .u, .u, .u, .u, .u, .u, .u, .u, .u, .u, .u, .u, .u, .u, .u, .u, .u, .u, .u, .u, .u, .u, .u, .u, .u, .u, .u, .u, .u, .u, .u, .u, .u, .u, .u, .u, .u, .u, .u, .u, .u, .u, .u, .u, .u, .u, .u, .u, .u, .u, .u, .u, .z N, .z k, .u, .u, .u, .u, .u, .u, .u, .u, .u, .u, .u, .u, .u, .u, .u], [], om⟩, fun k => k ≤ N, fun k => N - k, ⟨0, Nat.zero_le _, ?_⟩, ?_⟩
    · simp only [go_sem, Nat.reduceEqDiff, Nat.reduceBEq, Int.reduceToNat, Nat.reducePow, Nat.reduceMod, Nat.reduceAdd, Nat.reduceSub, Nat.reduceMul, Nat.reduceDiv, Nat.reduceLeDiff, Int.reduceAdd, Int.reduceSub, Int.reduceMul, Int.reduceDiv, Int.reduceMod, Int.reduceLE, Int.reduceLT, Int.reduceNeg, Int.reduceEq, Int.cast_ofNat_Int, Int.natCast_zero, List.contains_cons, List.contains_nil, Bool.or_false, Bool.or_true, Bool.true_or, reduceCtorEq, or_false, or_true, false_or, true_or, and_false, false_and, ne_eq, List.take_zero, List.take_succ_cons, List.take_nil, List.drop_zero, List.drop_succ_cons, List.drop_nil, decide_true, decide_false, c_law04_awake, c_law04_large, c_gfpow_Pow, c_gfpow_X, c_gfpow_Squares, c_ref02_Parts, c_ref02_Words, c_ref02_Of, c_ref04_Pow, c_gfpow_Rounds, c_ref01_Len, c_ref03_Mod, c_ref02_Mul, sqn]
    · intro k hk
      have p1 := sqn_lt A hz k
      have p2 := bl_cm_le (sqn A P k) (sqn A P k)
      have p3 := rm_lt (cm (sqn A P k) (sqn A P k)) hz
      simp only [go_sem, Nat.reduceEqDiff, Nat.reduceBEq, Int.reduceToNat, Nat.reducePow, Nat.reduceMod, Nat.reduceAdd, Nat.reduceSub, Nat.reduceMul, Nat.reduceDiv, Nat.reduceLeDiff, Int.reduceAdd, Int.reduceSub, Int.reduceMul, Int.reduceDiv, Int.reduceMod, Int.reduceLE, Int.reduceLT, Int.reduceNeg, Int.reduceEq, Int.cast_ofNat_Int, Int.natCast_zero, List.contains_cons, List.contains_nil, Bool.or_false, Bool.or_true, Bool.true_or, reduceCtorEq, or_false, or_true, false_or, true_or, and_false, false_and, ne_eq, List.take_zero, List.take_succ_cons, List.take_nil, List.drop_zero, List.drop_succ_cons, List.drop_nil, decide_true, decide_false, c_law04_awake, c_law04_large, c_gfpow_Pow, c_gfpow_X, c_gfpow_Squares, c_ref02_Parts, c_ref02_Words, c_ref02_Of, c_ref04_Pow, c_gfpow_Rounds, c_ref01_Len, c_ref03_Mod, c_ref02_Mul, hz]
      clear hw hA hP hL hn0
      refine ⟨fun h => ⟨by omega, fun _ => ⟨by omega, fun _ => ⟨by omega, k + 1, by omega, ⟨rfl, by omega⟩, by omega⟩⟩⟩, fun h => ?_⟩
      have : k = N := by omega
      subst this
      exact ⟨by omega, fun _ => rfl⟩
end Go.Proofs.Ytaojebdjkpdcdaa.I
