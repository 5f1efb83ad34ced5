/- gfpow: X, Squares, Irreducible. -/
import Derived.Test.YtaojebdjkpdcdaaGfpow1
import Derived.Test.YtaojebdjkpdcdaaG1
namespace Go.Proofs.Ytaojebdjkpdcdaa.I
open Go
set_option maxRecDepth 10000
set_option linter.unusedSimpArgs false
set_option linter.unusedVariables false

noncomputable def c_gfpow_X : Cn := fn2i tW tU (fun _ ps => ps.length ≤ 262144) (fun _ ps => pv ps = 0) (fun _ _ => .tup [vP 0, .z 8]) fun n ps => .tup [vP (pwr 2 (pv ps) n), .z 0]
noncomputable def cx_gfpow_X : Cx := { T := T, E := E, cs := [(15, c_gfpow_Pow), (35, c_gfp_X)], sch := [(1, false, .take 1 (.take 2 (.alt 0 (.alt 3 (.take 4 (.take 5 (.take 6 (.take 7 (.done))))) .no) .no)))], ob := [], qs := [15, 35] }
@[go_sem] theorem cx_gfpow_X_md : cx_gfpow_X.md = 0 := rfl
@[go_sem] theorem cx_gfpow_X_T : cx_gfpow_X.T = T := rfl
@[go_sem] theorem cx_gfpow_X_E : cx_gfpow_X.E = E := rfl
@[go_sem] theorem cx_gfpow_X_cs : cx_gfpow_X.cs = [(15, c_gfpow_Pow), (35, c_gfp_X)] := rfl
@[go_sem] theorem cx_gfpow_X_sch : cx_gfpow_X.sch = [(1, false, .take 1 (.take 2 (.alt 0 (.alt 3 (.take 4 (.take 5 (.take 6 (.take 7 (.done))))) .no) .no)))] := rfl
@[go_sem] theorem cx_gfpow_X_ob (d : Nat) : (cx_gfpow_X.ob).contains d = false := rfl
theorem cok_gfpow_X : COk Try.prog (cx_gfpow_X) := cok_of rfl (.cons ok_gfpow_Pow (.cons ok_gfp_X (.nil))) (.cons (fun _ => fn3i_quiet) (.cons (fun _ => fn1_quiet) (.nil))) (.nil)
theorem ok_gfpow_X : Ok Try.prog 16 c_gfpow_X := by
  refine ok_fn2i cok_gfpow_X mixed Try.func16 rfl (by kernel_rfl) (by kernel_rfl) rfl ?_
  intro n ps om hw hl
  have hy := (wf_u hw.2).2
  have hn := wf_w hw
  have b2 := bl_pv hy
  have e1 : upP 1 1 = 2 := rfl
  have b3 : bl 2 = 2 := rfl
  have g2 : ((bl 2 + 63) / 64 ≤ 9223372036854775807) = True := eq_true (by omega)
  by_cases hp : pv ps = 0
  · simp only [go_sem, Try.f16, Nat.reduceEqDiff, Nat.reduceBEq, Int.reduceToNat, Nat.reducePow, Nat.reduceMod, Nat.reduceAdd, Nat.reduceSub, Nat.reduceMul, Nat.reduceDiv, Nat.reduceLeDiff, Int.reduceAdd, Int.reduceSub, Int.reduceMul, Int.reduceDiv, Int.reduceMod, Int.reduceLE, Int.reduceLT, Int.reduceNeg, Int.reduceEq, Int.cast_ofNat_Int, Int.natCast_zero, List.contains_cons, List.contains_nil, Bool.or_false, Bool.or_true, Bool.true_or, reduceCtorEq, or_false, or_true, false_or, true_or, and_false, false_and, ne_eq, List.take_zero, List.take_succ_cons, List.take_nil, List.drop_zero, List.drop_succ_cons, List.drop_nil, decide_true, decide_false, c_gfpow_Pow, c_gfp_X, hp, e1, g2]
    repeat' (first | with_reducible refine And.intro ?_ ?_ | with_reducible intro _)
    all_goals first | omega | trivial
  · simp only [go_sem, Try.f16, Nat.reduceEqDiff, Nat.reduceBEq, Int.reduceToNat, Nat.reducePow, Nat.reduceMod, Nat.reduceAdd, Nat.reduceSub, Nat.reduceMul, Nat.reduceDiv, Nat.reduceLeDiff, Int.reduceAdd, Int.reduceSub, Int.reduceMul, Int.reduceDiv, Int.reduceMod, Int.reduceLE, Int.reduceLT, Int.reduceNeg, Int.reduceEq, Int.cast_ofNat_Int, Int.natCast_zero, List.contains_cons, List.contains_nil, Bool.or_false, Bool.or_true, Bool.true_or, reduceCtorEq, or_false, or_true, false_or, true_or, and_false, false_and, ne_eq, List.take_zero, List.take_succ_cons, List.take_nil, List.drop_zero, List.drop_succ_cons, List.drop_nil, decide_true, decide_false, c_gfpow_Pow, c_gfp_X, hp, e1, g2]
    repeat' (first | with_reducible refine And.intro ?_ ?_ | with_reducible intro _)
    all_goals first | omega | trivial

noncomputable def c_gfpow_Squares : Cn := fn3j tU tZ tU (fun xs _ ps => xs.length ≤ 1048576 ∧ ps.length ≤ 262144) (fun _ _ ps => pv ps = 0) (fun _ n _ => n < 0 ∨ 2048 < n) (fun _ _ _ => .tup [vP 0, .z 8]) (fun _ _ _ => .tup [vP 0, .z 1]) fun xs n ps => .tup [vP (sqn (pv xs) (pv ps) n.toNat), .z 0]
noncomputable def cx_gfpow_Squares : Cx := { T := T, E := E, cs := [(36, c_gfdiv_Mod), (55, c_gfpow_square)], sch := [], ob := [], qs := [36, 55] }
@[go_sem] theorem cx_gfpow_Squares_md : cx_gfpow_Squares.md = 0 := rfl
@[go_sem] theorem cx_gfpow_Squares_T : cx_gfpow_Squares.T = T := rfl
@[go_sem] theorem cx_gfpow_Squares_E : cx_gfpow_Squares.E = E := rfl
@[go_sem] theorem cx_gfpow_Squares_cs : cx_gfpow_Squares.cs = [(36, c_gfdiv_Mod), (55, c_gfpow_square)] := rfl
@[go_sem] theorem cx_gfpow_Squares_ob (d : Nat) : (cx_gfpow_Squares.ob).contains d = false := rfl
theorem cok_gfpow_Squares : COk Try.prog (cx_gfpow_Squares) := cok_of rfl (.cons ok_gfdiv_Mod (.cons ok_gfpow_square (.nil))) (.cons (fun _ => fn2i_quiet) (.cons (fun _ => fn2_quiet) (.nil))) (.nil)
set_option maxHeartbeats 1000000 in
theorem ok_gfpow_Squares : Ok Try.prog 17 c_gfpow_Squares := by
  refine ok_fn3j ?_
  refine ok_fn3 cok_gfpow_Squares mixed Try.func17 rfl (by kernel_rfl) (by kernel_rfl) rfl ?_
  intro xs n ps om hw ⟨hl, hl'⟩
  have hx := (wf_u ⟨hw.1, trivial⟩).2
  have hy := (wf_u hw.2.2).2
  have b1 := bl_pv hx
  have b2 := bl_pv hy
  by_cases hp : pv ps = 0
  · simp only [go_sem, Try.f17, Nat.reduceEqDiff, Nat.reduceBEq, Int.reduceToNat, Nat.reducePow, Nat.reduceMod, Nat.reduceAdd, Nat.reduceSub, Nat.reduceMul, Nat.reduceDiv, Nat.reduceLeDiff, Int.reduceAdd, Int.reduceSub, Int.reduceMul, Int.reduceDiv, Int.reduceMod, Int.reduceLE, Int.reduceLT, Int.reduceNeg, Int.reduceEq, Int.cast_ofNat_Int, Int.natCast_zero, List.contains_cons, List.contains_nil, Bool.or_false, Bool.or_true, Bool.true_or, reduceCtorEq, or_false, or_true, false_or, true_or, and_false, false_and, ne_eq, List.take_zero, List.take_succ_cons, List.take_nil, List.drop_zero, List.drop_succ_cons, List.drop_nil, decide_true, decide_false, c_gfdiv_Mod, c_gfpow_square, hp]
    omega
  · have p1 := rm_lt (pv xs) hp
    have g1 : ((bl (rm (pv xs) (pv ps)) + 63) / 64 ≤ 9223372036854775807) = True := eq_true (by omega)
    simp only [go_sem, Try.f17, Nat.reduceEqDiff, Nat.reduceBEq, Int.reduceToNat, Nat.reducePow, Nat.reduceMod, Nat.reduceAdd, Nat.reduceSub, Nat.reduceMul, Nat.reduceDiv, Nat.reduceLeDiff, Int.reduceAdd, Int.reduceSub, Int.reduceMul, Int.reduceDiv, Int.reduceMod, Int.reduceLE, Int.reduceLT, Int.reduceNeg, Int.reduceEq, Int.cast_ofNat_Int, Int.natCast_zero, List.contains_cons, List.contains_nil, Bool.or_false, Bool.or_true, Bool.true_or, reduceCtorEq, or_false, or_true, false_or, true_or, and_false, false_and, ne_eq, List.take_zero, List.take_succ_cons, List.take_nil, List.drop_zero, List.drop_succ_cons, List.drop_nil, decide_true, decide_false, c_gfdiv_Mod, c_gfpow_square, hp, g1]
    refine ⟨by omega, fun h => by rw [if_pos (by omega)], fun h => ⟨fun h' => by rw [if_pos (by omega)], fun h' => ?_⟩⟩
    obtain ⟨N, rfl⟩ := Int.eq_ofNat_of_zero_le (show 0 ≤ n by omega)
    rw [if_neg (by omega)]
    refine ⟨Nat, fun k => ⟨[vP (sqn (pv xs) (pv ps) k), .z N, .sl (els (V.n .u64) ps), .u, .u, .u, .nils, .z 0, .u, .u, .u, .u, .u, .u, .u, .u, .u, .u, .u, .u, .u, .u, .u, .u, .u, .u, .z N, .z k, .u, .u, .u, .u, .u, .u], [], om⟩, fun k => k ≤ N, fun k => N - k, ⟨0, Nat.zero_le _, ?_⟩, ?_⟩
    · simp only [go_sem, Nat.reduceEqDiff, Nat.reduceBEq, Int.reduceToNat, Nat.reducePow, Nat.reduceMod, Nat.reduceAdd, Nat.reduceSub, Nat.reduceMul, Nat.reduceDiv, Nat.reduceLeDiff, Int.reduceAdd, Int.reduceSub, Int.reduceMul, Int.reduceDiv, Int.reduceMod, Int.reduceLE, Int.reduceLT, Int.reduceNeg, Int.reduceEq, Int.cast_ofNat_Int, Int.natCast_zero, List.contains_cons, List.contains_nil, Bool.or_false, Bool.or_true, Bool.true_or, reduceCtorEq, or_false, or_true, false_or, true_or, and_false, false_and, ne_eq, List.take_zero, List.take_succ_cons, List.take_nil, List.drop_zero, List.drop_succ_cons, List.drop_nil, decide_true, decide_false, c_gfdiv_Mod, c_gfpow_square, sqn]
    · intro k hk
      have p2 := sqn_lt (pv xs) hp k
      have p3 := sqn_lt (pv xs) hp (k + 1)
      have fin : ¬ k < N → k = N := by omega
      simp only [go_sem, Nat.reduceEqDiff, Nat.reduceBEq, Int.reduceToNat, Nat.reducePow, Nat.reduceMod, Nat.reduceAdd, Nat.reduceSub, Nat.reduceMul, Nat.reduceDiv, Nat.reduceLeDiff, Int.reduceAdd, Int.reduceSub, Int.reduceMul, Int.reduceDiv, Int.reduceMod, Int.reduceLE, Int.reduceLT, Int.reduceNeg, Int.reduceEq, Int.cast_ofNat_Int, Int.natCast_zero, List.contains_cons, List.contains_nil, Bool.or_false, Bool.or_true, Bool.true_or, reduceCtorEq, or_false, or_true, false_or, true_or, and_false, false_and, ne_eq, List.take_zero, List.take_succ_cons, List.take_nil, List.drop_zero, List.drop_succ_cons, List.drop_nil, decide_true, decide_false, c_gfdiv_Mod, c_gfpow_square, hp]
      exact ⟨fun h2 => ⟨by omega, fun _ => ⟨by omega, k + 1, by omega, ⟨rfl, by omega⟩, by omega⟩⟩, fun h2 => by rw [fin (by omega)]⟩

noncomputable def c_gfpow_Irreducible : Cn := fn1 tU (fun ps => ps.length ≤ 262144) fun ps => .b (ben (pv ps))
noncomputable def cx_gfpow_Irreducible : Cx := { T := T, E := E, cs := [(17, c_gfpow_Squares), (26, c_gfp_Deg), (35, c_gfp_X), (50, c_gfdiv_Gcd), (51, c_gfp_Add)], sch := [], ob := [], qs := [17, 26, 35, 50, 51] }
@[go_sem] theorem cx_gfpow_Irreducible_md : cx_gfpow_Irreducible.md = 0 := rfl
@[go_sem] theorem cx_gfpow_Irreducible_T : cx_gfpow_Irreducible.T = T := rfl
@[go_sem] theorem cx_gfpow_Irreducible_E : cx_gfpow_Irreducible.E = E := rfl
@[go_sem] theorem cx_gfpow_Irreducible_cs : cx_gfpow_Irreducible.cs = [(17, c_gfpow_Squares), (26, c_gfp_Deg), (35, c_gfp_X), (50, c_gfdiv_Gcd), (51, c_gfp_Add)] := rfl
@[go_sem] theorem cx_gfpow_Irreducible_ob (d : Nat) : (cx_gfpow_Irreducible.ob).contains d = false := rfl
theorem cok_gfpow_Irreducible : COk Try.prog (cx_gfpow_Irreducible) := cok_of rfl (.cons ok_gfpow_Squares (.cons ok_gfp_Deg (.cons ok_gfp_X (.cons ok_gfdiv_Gcd (.cons ok_gfp_Add (.nil)))))) (.cons (fun _ => fn3j_quiet) (.cons (fun _ => fn1_quiet) (.cons (fun _ => fn1_quiet) (.cons (fun _ => fn2_quiet) (.cons (fun _ => fn2_quiet) (.nil)))))) (.nil)
set_option maxHeartbeats 1000000 in
theorem ok_gfpow_Irreducible : Ok Try.prog 30 c_gfpow_Irreducible := by
  refine ok_fn1 cok_gfpow_Irreducible mixed Try.func30 rfl (by kernel_rfl) (by kernel_rfl) rfl ?_
  intro ps om hw hl
  have hy := (wf_u hw).2
  have b2 := bl_pv hy
  have e1 : upP 1 1 = 2 := rfl
  have b3 : bl 2 = 2 := rfl
  have g2 : ((bl 2 + 63) / 64 ≤ 9223372036854775807) = True := eq_true (by omega)
  simp only [go_sem, Try.f30, Nat.reduceEqDiff, Nat.reduceBEq, Int.reduceToNat, Nat.reducePow, Nat.reduceMod, Nat.reduceAdd, Nat.reduceSub, Nat.reduceMul, Nat.reduceDiv, Nat.reduceLeDiff, Int.reduceAdd, Int.reduceSub, Int.reduceMul, Int.reduceDiv, Int.reduceMod, Int.reduceLE, Int.reduceLT, Int.reduceNeg, Int.reduceEq, Int.cast_ofNat_Int, Int.natCast_zero, List.contains_cons, List.contains_nil, Bool.or_false, Bool.or_true, Bool.true_or, reduceCtorEq, or_false, or_true, false_or, true_or, and_false, false_and, ne_eq, List.take_zero, List.take_succ_cons, List.take_nil, List.drop_zero, List.drop_succ_cons, List.drop_nil, decide_true, decide_false, c_gfpow_Squares, c_gfp_Deg, c_gfp_X, c_gfdiv_Gcd, c_gfp_Add, e1, g2]
  obtain ⟨p, hp⟩ : ∃ p, pv ps = p := ⟨_, rfl⟩
  rw [hp] at b2 ⊢
  refine ⟨by omega, fun _ => ⟨fun h => ?_, fun h => ⟨fun h' => ?_, fun h' => ?_⟩⟩⟩
  · unfold ben; rw [decide_eq_false (by omega)]; rfl
  · unfold ben; rw [decide_eq_false (by omega)]; rfl
  refine ⟨Nat, fun k => ⟨[.sl (els (V.n .u64) ps), .u, .b false, .z (bl p - 1), vP 2, .z (k + 1), .u, .u, .u, .u, .u, .u, .u, .u, .u, .u, .u, .u, .u, .u, .u, .u, .u, .u, .u, .u, .u, .u, .u, .u, .u, .u, .u, .u, .u, .u, .u], [], om⟩, fun k => k ≤ (bl p - 1) / 2 ∧ benF p k = true, fun k => bl p - k, ⟨0, ⟨Nat.zero_le _, rfl⟩, ?_⟩, ?_⟩
  · simp only [go_sem, Nat.reduceEqDiff, Nat.reduceBEq, Int.reduceToNat, Nat.reducePow, Nat.reduceMod, Nat.reduceAdd, Nat.reduceSub, Nat.reduceMul, Nat.reduceDiv, Nat.reduceLeDiff, Int.reduceAdd, Int.reduceSub, Int.reduceMul, Int.reduceDiv, Int.reduceMod, Int.reduceLE, Int.reduceLT, Int.reduceNeg, Int.reduceEq, Int.cast_ofNat_Int, Int.natCast_zero, List.contains_cons, List.contains_nil, Bool.or_false, Bool.or_true, Bool.true_or, reduceCtorEq, or_false, or_true, false_or, true_or, and_false, false_and, ne_eq, List.take_zero, List.take_succ_cons, List.take_nil, List.drop_zero, List.drop_succ_cons, List.drop_nil, decide_true, decide_false, c_gfpow_Squares, c_gfp_Deg, c_gfp_X, c_gfdiv_Gcd, c_gfp_Add]
  · rintro k ⟨hk, hb⟩
    have hp0 : p ≠ 0 := by rintro rfl; rw [bl_zero] at h; omega
    have p1 := sqn_lt 2 hp0 (k + 1)
    have p2 := bl_xor_le (sqn 2 p (k + 1)) 2
    have p3 : bl (gd (sqn 2 p (k + 1) ^^^ 2) p) ≤ bl p := dv_bl (gd_dv_right _ _) hp0
    have p4 := bl_pos (x := gd (sqn 2 p (k + 1) ^^^ 2) p)
    have c1 : ((k : Int) + 1 < 0 ∨ 2048 < (k : Int) + 1) = False := eq_false (by omega)
    have c2 : ((k : Int) + 1).toNat = k + 1 := by omega
    have e2 := benF_succ p k
    simp only [go_sem, Nat.reduceEqDiff, Nat.reduceBEq, Int.reduceToNat, Nat.reducePow, Nat.reduceMod, Nat.reduceAdd, Nat.reduceSub, Nat.reduceMul, Nat.reduceDiv, Nat.reduceLeDiff, Int.reduceAdd, Int.reduceSub, Int.reduceMul, Int.reduceDiv, Int.reduceMod, Int.reduceLE, Int.reduceLT, Int.reduceNeg, Int.reduceEq, Int.cast_ofNat_Int, Int.natCast_zero, List.contains_cons, List.contains_nil, Bool.or_false, Bool.or_true, Bool.true_or, reduceCtorEq, or_false, or_true, false_or, true_or, and_false, false_and, ne_eq, List.take_zero, List.take_succ_cons, List.take_nil, List.drop_zero, List.drop_succ_cons, List.drop_nil, decide_true, decide_false, c_gfpow_Squares, c_gfp_Deg, c_gfp_X, c_gfdiv_Gcd, c_gfp_Add, e1, g2, hp, hp0, c1, c2]
    rw [hb] at e2
    refine ⟨by omega, fun h2 => ⟨by omega, fun _ => ⟨by omega, fun _ => ⟨by omega, fun _ => ⟨by omega, fun _ => ⟨fun h3 => ⟨by omega, k + 1, ⟨by omega, ?_⟩, by omega, by omega⟩, fun h3 => ?_⟩⟩⟩⟩⟩, fun h2 => ?_⟩
    · rw [e2, decide_eq_true (by omega)]; rfl
    · unfold ben
      rw [benF_of (k := k + 1) (by rw [e2, decide_eq_false (by omega)]; rfl) (by omega), Bool.and_false]
    · have : k = (bl p - 1) / 2 := by omega
      unfold ben
      rw [← this, hb, decide_eq_true (by omega)]; rfl
end Go.Proofs.Ytaojebdjkpdcdaa.I
