/- MasseyGoes, as a contract. -/
import Derived.Test.YtbngamllllbfpaaLaw05
import Derived.Test.YtbngamllllbfpaaBm3
namespace Go.Proofs.Ytbngamllllbfpaa.I
open Go
set_option maxRecDepth 10000
set_option linter.unusedSimpArgs false
set_option linter.unusedVariables false

def c_law05_MasseyGoes : Cn := fn3 tU tBs (tN .u8) (fun p _ _ => p.length ≤ 17592186044416) fun _ _ _ => .b true
noncomputable def cx_law05_MasseyGoes : Cx := { T := T, cs := [(24, c_gfp_Deg), (36, c_gfdiv_Mod), (43, c_law05_awake), (44, c_massey_Goes), (45, c_ref05_Same), (47, c_massey_Rule), (50, c_massey_Least)], sch := [(15, false, .take 0 (.take 1 (.take 2 (.take 5 (.take 6 (.take 7 (.alt 3 (.take 4 (.alt 8 (.take 9 (.alt 10 (.take 11 (.take 12 (.take 13 (.take 14 (.take 15 (.done)))))) .no)) .no)) .no)))))))], ob := [], qs := [24, 36, 43, 44, 45, 47, 50] }
@[go_sem] theorem cx_law05_MasseyGoes_md : cx_law05_MasseyGoes.md = 0 := rfl
@[go_sem] theorem cx_law05_MasseyGoes_T : cx_law05_MasseyGoes.T = T := rfl
@[go_sem] theorem cx_law05_MasseyGoes_cs : cx_law05_MasseyGoes.cs = [(24, c_gfp_Deg), (36, c_gfdiv_Mod), (43, c_law05_awake), (44, c_massey_Goes), (45, c_ref05_Same), (47, c_massey_Rule), (50, c_massey_Least)] := rfl
@[go_sem] theorem cx_law05_MasseyGoes_sch : cx_law05_MasseyGoes.sch = [(15, false, .take 0 (.take 1 (.take 2 (.take 5 (.take 6 (.take 7 (.alt 3 (.take 4 (.alt 8 (.take 9 (.alt 10 (.take 11 (.take 12 (.take 13 (.take 14 (.take 15 (.done)))))) .no)) .no)) .no)))))))] := rfl
@[go_sem] theorem cx_law05_MasseyGoes_ob (d : Nat) : (cx_law05_MasseyGoes.ob).contains d = false := rfl
theorem cok_law05_MasseyGoes : COk Try.prog (cx_law05_MasseyGoes) := cok_of rfl (.cons ok_gfp_Deg (.cons ok_gfdiv_Mod (.cons ok_law05_awake (.cons ok_massey_Goes (.cons ok_ref05_Same (.cons ok_massey_Rule (.cons ok_massey_Least (.nil)))))))) (.cons (fun _ => fn1_quiet) (.cons (fun _ => fn2i_quiet) (.cons (fun _ => fn0_quiet) (.cons (fun _ => fn3j_quiet) (.cons (fun _ => fn2_quiet) (.cons (fun _ => fn2_quiet) (.cons (fun _ => fn1i_quiet) (.nil)))))))) (.nil)
set_option maxHeartbeats 4000000 in
theorem ok_law05_MasseyGoes : Ok Try.prog 14 c_law05_MasseyGoes := by
  refine ok_fn3 cok_law05_MasseyGoes mixed Try.func14 rfl (by kernel_rfl) (by kernel_rfl) rfl ?_
  intro p f more om hw hpl
  have h1 := bl_pv (wf_u ⟨hw.1, trivial⟩).2
  have hp0 := (wf_u ⟨hw.1, trivial⟩).1
  have hf := wf_bs ⟨hw.2.1, trivial⟩
  rw [longest_eq] at hf hp0
  have hm : more < 256 := hw.2.2.1
  obtain ⟨P, hP⟩ : ∃ A, pv p = A := ⟨_, rfl⟩
  rw [hP] at h1
  rcases Decidable.em (p.length ≤ 2 ∧ 2 ≤ bl P ∧ bl P - 1 ≤ f.length ∧ more ≤ 100) with hg | hg
  · obtain ⟨g1, g2, g3, g4⟩ := hg
    have hP0 := bl_pos.1 (show 0 < bl P by omega)
    have c1 : ¬ (2 : Int) < p.length := by omega
    have c2 : ¬ (bl P : Int) - 1 < 1 := by omega
    have c3 : ¬ (f.length : Int) < (bl P : Int) - 1 := by omega
    have c4 : ¬ 100 < more := by omega
    have e1 : ((bl P : Int) - 1).toNat = bl P - 1 := by omega
    have e2 : ((bl P : Int) - 1 + more).toNat = bl P - 1 + more := by omega
    have e3 : (f.take (bl P - 1)).length = bl P - 1 := by simp; omega
    obtain ⟨L, hL⟩ : ∃ L, go P (f.take (bl P - 1)) (bl P - 1 + more) = L := ⟨_, rfl⟩
    have l1 : L.length = 2 * (bl P - 1) + more := by rw [← hL, go_len, e3]; omega
    have l2 : Ru L P := by rw [← hL]; exact go_ru g2 e3 _
    have l3 := lc_least l2
    have l4 : lc L ≤ L.length := lc_le L
    have l5 := bl_lst L
    have l6 := (lst_ru L).1
    have l7 : rm P (lst L) = 0 := (rm_zero_iff l6.1).2 (lst_dv l2 (by omega))
    have c5 : L.length ≤ 2048 ∧ 2 * lc L ≤ L.length := by omega
    obtain ⟨c6, c7⟩ := c5
    have d1 : ¬ bl P < 2 := by omega
    have d2 : ¬ (bl P - 1 < bl P - 1 ∨ (bl P : Int) - 1 + more < 0 ∨ 2048 < (bl P : Int) - 1 + more) := by omega
    have d3 : lst L = 0 ↔ False := iff_false_intro l6.1
    have d4 : ((L.length : Int) = 2 * ((bl P : Int) - 1) + more) = True := eq_true (by omega)
    rcases Decidable.em (lc L = 0) with hz | hz
    · simp (maxSteps := 10000000) only [go_sem, Try.f14, Nat.reduceEqDiff, Nat.reduceBEq, Int.reduceToNat, Nat.reducePow, Nat.reduceMod, Nat.reduceAdd, Nat.reduceSub, Nat.reduceMul, Nat.reduceDiv, Nat.reduceLeDiff, Int.reduceAdd, Int.reduceSub, Int.reduceMul, Int.reduceDiv, Int.reduceMod, Int.reduceLE, Int.reduceLT, Int.reduceNeg, Int.reduceEq, Int.cast_ofNat_Int, Int.natCast_zero, List.contains_cons, List.contains_nil, Bool.or_false, Bool.or_true, Bool.true_or, reduceCtorEq, or_false, or_true, false_or, true_or, and_false, false_and, ne_eq, List.take_zero, List.take_succ_cons, List.take_nil, List.drop_zero, List.drop_succ_cons, List.drop_nil, decide_true, decide_false, c_gfp_Deg, c_gfdiv_Mod, c_law05_awake, c_massey_Goes, c_ref05_Same, c_massey_Rule, c_massey_Least, hP, c1, c2, c3, c4, e1, e2, e3, hL, l2, l5, l7, c6, c7, d1, d2, d3, d4, hz, Nat.reduceLT, not_false_eq_true, not_true_eq_false]
      clear hw hP hL d3 d4
      repeat' (first | with_reducible refine And.intro ?_ ?_ | with_reducible intro _)
      all_goals first | omega | trivial
    · have t1 : (((lc L + 1 : Nat) : Int) - 1).toNat = lc L := by omega
      have t2 : ((L.length : Int) - (((lc L + 1 : Nat) : Int) - 1)).toNat = L.length - lc L := by omega
      have t3 : (L.take (lc L)).length = lc L := by simp; omega
      have t4 : go (lst L) (L.take (lc L)) (L.length - lc L) = L := by
        have := go_of_ru (q := lst L) (by omega) l6 (by omega) (L.length - lc L) (by omega)
        rw [l5, Nat.add_sub_cancel] at this
        rw [this, List.take_of_length_le (by omega)]
      simp (maxSteps := 10000000) only [go_sem, Try.f14, Nat.reduceEqDiff, Nat.reduceBEq, Int.reduceToNat, Nat.reducePow, Nat.reduceMod, Nat.reduceAdd, Nat.reduceSub, Nat.reduceMul, Nat.reduceDiv, Nat.reduceLeDiff, Int.reduceAdd, Int.reduceSub, Int.reduceMul, Int.reduceDiv, Int.reduceMod, Int.reduceLE, Int.reduceLT, Int.reduceNeg, Int.reduceEq, Int.cast_ofNat_Int, Int.natCast_zero, List.contains_cons, List.contains_nil, Bool.or_false, Bool.or_true, Bool.true_or, reduceCtorEq, or_false, or_true, false_or, true_or, and_false, false_and, ne_eq, List.take_zero, List.take_succ_cons, List.take_nil, List.drop_zero, List.drop_succ_cons, List.drop_nil, decide_true, decide_false, c_gfp_Deg, c_gfdiv_Mod, c_law05_awake, c_massey_Goes, c_ref05_Same, c_massey_Rule, c_massey_Least, hP, c1, c2, c3, c4, e1, e2, e3, hL, l2, l5, l7, c6, c7, d1, d2, d3, d4, t1, t2, t3, t4, Nat.reduceLT, not_false_eq_true, not_true_eq_false]
      clear hw hP hL d3 d4
      repeat' (first | with_reducible refine And.intro ?_ ?_ | with_reducible intro _)
      all_goals first | omega | trivial
  · rcases Decidable.em ((2 : Int) < p.length) with c1 | c1
    · simp (maxSteps := 10000000) only [go_sem, Try.f14, Nat.reduceEqDiff, Nat.reduceBEq, Int.reduceToNat, Nat.reducePow, Nat.reduceMod, Nat.reduceAdd, Nat.reduceSub, Nat.reduceMul, Nat.reduceDiv, Nat.reduceLeDiff, Int.reduceAdd, Int.reduceSub, Int.reduceMul, Int.reduceDiv, Int.reduceMod, Int.reduceLE, Int.reduceLT, Int.reduceNeg, Int.reduceEq, Int.cast_ofNat_Int, Int.natCast_zero, List.contains_cons, List.contains_nil, Bool.or_false, Bool.or_true, Bool.true_or, reduceCtorEq, or_false, or_true, false_or, true_or, and_false, false_and, ne_eq, List.take_zero, List.take_succ_cons, List.take_nil, List.drop_zero, List.drop_succ_cons, List.drop_nil, decide_true, decide_false, c_gfp_Deg, c_gfdiv_Mod, c_law05_awake, c_massey_Goes, c_ref05_Same, c_massey_Rule, c_massey_Least, hP, c1, Nat.reduceLT]
      clear hw hP
      repeat' (first | with_reducible refine And.intro ?_ ?_ | with_reducible intro _)
      all_goals first | omega | trivial
    rcases Decidable.em ((bl P : Int) - 1 < 1) with c2 | c2
    · simp (maxSteps := 10000000) only [go_sem, Try.f14, Nat.reduceEqDiff, Nat.reduceBEq, Int.reduceToNat, Nat.reducePow, Nat.reduceMod, Nat.reduceAdd, Nat.reduceSub, Nat.reduceMul, Nat.reduceDiv, Nat.reduceLeDiff, Int.reduceAdd, Int.reduceSub, Int.reduceMul, Int.reduceDiv, Int.reduceMod, Int.reduceLE, Int.reduceLT, Int.reduceNeg, Int.reduceEq, Int.cast_ofNat_Int, Int.natCast_zero, List.contains_cons, List.contains_nil, Bool.or_false, Bool.or_true, Bool.true_or, reduceCtorEq, or_false, or_true, false_or, true_or, and_false, false_and, ne_eq, List.take_zero, List.take_succ_cons, List.take_nil, List.drop_zero, List.drop_succ_cons, List.drop_nil, decide_true, decide_false, c_gfp_Deg, c_gfdiv_Mod, c_law05_awake, c_massey_Goes, c_ref05_Same, c_massey_Rule, c_massey_Least, hP, c1, c2, Nat.reduceLT]
      clear hw hP
      repeat' (first | with_reducible refine And.intro ?_ ?_ | with_reducible intro _)
      all_goals first | omega | trivial
    rcases Decidable.em ((f.length : Int) < (bl P : Int) - 1) with c3 | c3
    · simp (maxSteps := 10000000) only [go_sem, Try.f14, Nat.reduceEqDiff, Nat.reduceBEq, Int.reduceToNat, Nat.reducePow, Nat.reduceMod, Nat.reduceAdd, Nat.reduceSub, Nat.reduceMul, Nat.reduceDiv, Nat.reduceLeDiff, Int.reduceAdd, Int.reduceSub, Int.reduceMul, Int.reduceDiv, Int.reduceMod, Int.reduceLE, Int.reduceLT, Int.reduceNeg, Int.reduceEq, Int.cast_ofNat_Int, Int.natCast_zero, List.contains_cons, List.contains_nil, Bool.or_false, Bool.or_true, Bool.true_or, reduceCtorEq, or_false, or_true, false_or, true_or, and_false, false_and, ne_eq, List.take_zero, List.take_succ_cons, List.take_nil, List.drop_zero, List.drop_succ_cons, List.drop_nil, decide_true, decide_false, c_gfp_Deg, c_gfdiv_Mod, c_law05_awake, c_massey_Goes, c_ref05_Same, c_massey_Rule, c_massey_Least, hP, c1, c2, c3, Nat.reduceLT]
      clear hw hP
      repeat' (first | with_reducible refine And.intro ?_ ?_ | with_reducible intro _)
      all_goals first | omega | trivial
    have c4 : 100 < more := by omega
    simp (maxSteps := 10000000) only [go_sem, Try.f14, Nat.reduceEqDiff, Nat.reduceBEq, Int.reduceToNat, Nat.reducePow, Nat.reduceMod, Nat.reduceAdd, Nat.reduceSub, Nat.reduceMul, Nat.reduceDiv, Nat.reduceLeDiff, Int.reduceAdd, Int.reduceSub, Int.reduceMul, Int.reduceDiv, Int.reduceMod, Int.reduceLE, Int.reduceLT, Int.reduceNeg, Int.reduceEq, Int.cast_ofNat_Int, Int.natCast_zero, List.contains_cons, List.contains_nil, Bool.or_false, Bool.or_true, Bool.true_or, reduceCtorEq, or_false, or_true, false_or, true_or, and_false, false_and, ne_eq, List.take_zero, List.take_succ_cons, List.take_nil, List.drop_zero, List.drop_succ_cons, List.drop_nil, decide_true, decide_false, c_gfp_Deg, c_gfdiv_Mod, c_law05_awake, c_massey_Goes, c_ref05_Same, c_massey_Rule, c_massey_Least, hP, c1, c2, c3, c4, Nat.reduceLT]
    clear hw hP
    repeat' (first | with_reducible refine And.intro ?_ ?_ | with_reducible intro _)
    all_goals first | omega | trivial

end Go.Proofs.Ytbngamllllbfpaa.I
