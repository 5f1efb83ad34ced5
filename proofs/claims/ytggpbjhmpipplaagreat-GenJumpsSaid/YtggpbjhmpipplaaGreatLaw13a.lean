/- Chapter 13: GenSteps, GenJumps, as contracts. -/
import Derived.Test.YtggpbjhmpipplaaGreatLaw13
import Derived.Test.YtggpbjhmpipplaaGreatRef13c
namespace Go.Proofs.YtggpbjhmpipplaaGreat.I
open Go
open Nat renaming reduceEqDiff → kn1, reduceBEq → kn2, reducePow → kn3, reduceMod → kn4, reduceAdd → kn5, reduceSub → kn6, reduceMul → kn7, reduceDiv → kn8, reduceLeDiff → kn9, reduceLT → kn0, zero_lt_one → kq1, zero_add → kq2, zero_le → kq3, le_refl → kq4
open Int renaming reduceToNat → kz1, reduceAdd → kz2, reduceSub → kz3, reduceMul → kz4, reduceDiv → kz5, reduceMod → kz6, reduceLE → kz7, reduceLT → kz8, reduceNeg → kz9, reduceEq → kz0
set_option maxRecDepth 10000
set_option linter.unusedSimpArgs false
set_option linter.unusedVariables false

@[go_sem] noncomputable def c_law13_GenSteps : Cn := fn2 tG (tN .u8) (fun _ _ => True) fun _ _ => .b true
noncomputable def cx_law13_GenSteps : Cx := { T := T, E := E, cs := [(16, c_wide_Of), (18, c_law13_Own), (19, c_ref13_Jump), (26, c_gen_Jump), (28, c_law13_awake), (29, c_ref13_Check)], sch := [(5, false, .take 0 (.take 1 (.take 2 (.alt 3 (.alt 4 (.take 5 (.take 6 (.take 7 (.alt 8 (.alt 9 (.take 10 (.done)) .no) .no)))) (.alt 8 (.alt 4 (.take 5 (.take 6 (.take 7 (.alt 9 (.take 10 (.done)) .no)))) .no) (.no))) (.alt 8 (.alt 3 (.alt 4 (.take 5 (.take 6 (.take 7 (.alt 9 (.take 10 (.done)) .no)))) .no) .no) (.no)))))), (8, false, .take 0 (.take 1 (.take 2 (.take 3 (.take 5 (.take 7 (.take 8 (.alt 4 (.alt 6 (.alt 9 (.take 10 (.take 11 (.take 12 (.done)))) .no) .no) .no))))))))], ob := [], qs := [16, 18, 19, 26, 28, 29] }
@[go_sem] theorem cx_law13_GenSteps_e : cx_law13_GenSteps.gs = none ∧ cx_law13_GenSteps.md = 0 ∧ cx_law13_GenSteps.T = T ∧ cx_law13_GenSteps.E = E ∧ cx_law13_GenSteps.cs = [(16, c_wide_Of), (18, c_law13_Own), (19, c_ref13_Jump), (26, c_gen_Jump), (28, c_law13_awake), (29, c_ref13_Check)] ∧ cx_law13_GenSteps.sch = [(5, false, .take 0 (.take 1 (.take 2 (.alt 3 (.alt 4 (.take 5 (.take 6 (.take 7 (.alt 8 (.alt 9 (.take 10 (.done)) .no) .no)))) (.alt 8 (.alt 4 (.take 5 (.take 6 (.take 7 (.alt 9 (.take 10 (.done)) .no)))) .no) (.no))) (.alt 8 (.alt 3 (.alt 4 (.take 5 (.take 6 (.take 7 (.alt 9 (.take 10 (.done)) .no)))) .no) .no) (.no)))))), (8, false, .take 0 (.take 1 (.take 2 (.take 3 (.take 5 (.take 7 (.take 8 (.alt 4 (.alt 6 (.alt 9 (.take 10 (.take 11 (.take 12 (.done)))) .no) .no) .no))))))))] ∧ ∀ d, (cx_law13_GenSteps.ob).contains d = false := ⟨rfl, rfl, rfl, rfl, rfl, rfl, fun _ => rfl⟩
theorem cok_law13_GenSteps : COk Tryz.prog (cx_law13_GenSteps) := cok_of rfl (.cons ok_wide_Of (.cons ok_law13_Own (.cons ok_ref13_Jump (.cons ok_gen_Jump (.cons ok_law13_awake (.cons ok_ref13_Check (.nil))))))) (.cons (fun _ => fn1_quiet) (.cons (fun _ => fn1_quiet) (.cons (fun _ => fn2_quiet) (.cons (fun _ => fn2i_quiet) (.cons (fun _ => fn0_quiet) (.cons (fun _ => fn1_quiet) (.nil))))))) (.nil)
set_option maxHeartbeats 4000000 in
theorem ok_law13_GenSteps : Ok Tryz.prog 9 c_law13_GenSteps := by
  refine ok_fn2 cok_law13_GenSteps mixed Tryz.func9 rfl (by kernel_rfl) (by kernel_rfl) rfl ?_
  intro s n om hw _
  have hs := (wf_g hw).1
  have hn : n < 256 := hw.2.1
  have q : n % 18446744073709551616 = n := Nat.mod_eq_of_lt (by omega)
  have q2 : n / 18446744073709551616 = 0 := Nat.div_eq_of_lt (by omega)
  have d := tW_lit (l := n) (by omega)
  by_cases hb : 100 < n
  · have hb' : (100 < n) = True := eq_true hb
    simp (maxSteps := 10000000) only [go_sem, Tryz.f9, kn1, kn2, kn3, kn4, kn5, kn6, kn7, kn8, kn9, kz1, kz2, kz3, kz4, kz5, kz6, kz7, kz8, kz9, kz0, reduceCtorEq, String.reduceEq, kn0, kq1, kq2, kq3, kq4, Int.toNat_natCast, hb']
  have hb' : (100 < n) = False := eq_false hb
  by_cases hk : gok s
  · have hz := gchk_ok hk
    have e := gst_gjump hs hk n
    simp (maxSteps := 10000000) only [go_sem, Tryz.f9, kn1, kn2, kn3, kn4, kn5, kn6, kn7, kn8, kn9, kz1, kz2, kz3, kz4, kz5, kz6, kz7, kz8, kz9, kz0, reduceCtorEq, String.reduceEq, kn0, kq1, kq2, kq3, kq4, Int.toNat_natCast, hb', q, q2, d, hk, hz, e]
    intros; omega
  · have hz : (gchk s = 0) = False := eq_false (gchk_no hk)
    simp (maxSteps := 10000000) only [go_sem, Tryz.f9, kn1, kn2, kn3, kn4, kn5, kn6, kn7, kn8, kn9, kz1, kz2, kz3, kz4, kz5, kz6, kz7, kz8, kz9, kz0, reduceCtorEq, String.reduceEq, kn0, kq1, kq2, kq3, kq4, Int.toNat_natCast, hb', q, q2, d, hk, hz, gz, x0, d0, h0, k0]

theorem wI (n m : Nat) : (n / 18446744073709551616 = m / 18446744073709551616 ∧ n % 18446744073709551616 = m % 18446744073709551616) = (n = m) := propext ⟨fun h => by omega, fun h => by subst h; exact ⟨rfl, rfl⟩⟩
@[go_sem] noncomputable def c_law13_GenJumps : Cn := fn3 tG tW tW (fun _ _ _ => True) fun _ _ _ => .b true
noncomputable def cx_law13_GenJumps : Cx := { T := T, E := E, cs := [(23, c_gen_Check), (24, c_wide_Cmp), (25, c_gen_Limit), (26, c_gen_Jump), (27, c_wide_Add), (28, c_law13_awake)], sch := [(13, false, .take 0 (.take 1 (.alt 2 (.take 3 (.take 4 (.take 5 (.take 6 (.alt 7 (.take 8 (.take 9 (.take 10 (.take 11 (.take 12 (.take 13 (.take 14 (.take 15 (.take 16 (.take 17 (.take 18 (.take 19 (.done))))))))))))) .no))))) .no)))], ob := [], qs := [23, 24, 25, 26, 27, 28] }
@[go_sem] theorem cx_law13_GenJumps_e : cx_law13_GenJumps.gs = none ∧ cx_law13_GenJumps.md = 0 ∧ cx_law13_GenJumps.T = T ∧ cx_law13_GenJumps.E = E ∧ cx_law13_GenJumps.cs = [(23, c_gen_Check), (24, c_wide_Cmp), (25, c_gen_Limit), (26, c_gen_Jump), (27, c_wide_Add), (28, c_law13_awake)] ∧ cx_law13_GenJumps.sch = [(13, false, .take 0 (.take 1 (.alt 2 (.take 3 (.take 4 (.take 5 (.take 6 (.alt 7 (.take 8 (.take 9 (.take 10 (.take 11 (.take 12 (.take 13 (.take 14 (.take 15 (.take 16 (.take 17 (.take 18 (.take 19 (.done))))))))))))) .no))))) .no)))] ∧ ∀ d, (cx_law13_GenJumps.ob).contains d = false := ⟨rfl, rfl, rfl, rfl, rfl, rfl, fun _ => rfl⟩
theorem cok_law13_GenJumps : COk Tryz.prog (cx_law13_GenJumps) := cok_of rfl (.cons ok_gen_Check (.cons ok_wide_Cmp (.cons ok_gen_Limit (.cons ok_gen_Jump (.cons ok_wide_Add (.cons ok_law13_awake (.nil))))))) (.cons (fun _ => fn1_quiet) (.cons (fun _ => fn2_quiet) (.cons (fun _ => fn1_quiet) (.cons (fun _ => fn2i_quiet) (.cons (fun _ => fn2_quiet) (.cons (fun _ => fn0_quiet) (.nil))))))) (.nil)
set_option maxHeartbeats 4000000 in
theorem ok_law13_GenJumps : Ok Tryz.prog 11 c_law13_GenJumps := by
  refine ok_fn3 cok_law13_GenJumps mixed Tryz.func11 rfl (by kernel_rfl) (by kernel_rfl) rfl ?_
  intro s n m om hw _
  have hs := (wf_g hw).1
  have hn := wf_w hw.2
  have hm := wf_w hw.2.2
  by_cases hk : gok s
  · have hz := gchk_ok hk
    by_cases ho : 340282366920938463463374607431768211456 ≤ n + m
    · have ho' : (340282366920938463463374607431768211456 ≤ n + m) = True := eq_true ho
      simp (maxSteps := 10000000) only [go_sem, Tryz.f11, kn1, kn2, kn3, kn4, kn5, kn6, kn7, kn8, kn9, kz1, kz2, kz3, kz4, kz5, kz6, kz7, kz8, kz9, kz0, reduceCtorEq, String.reduceEq, kn0, kq1, kq2, kq3, kq4, Int.toNat_natCast, hk, hz, ho']
    have ho' : (340282366920938463463374607431768211456 ≤ n + m) = False := eq_false ho
    have hs' : (n + m) % 340282366920938463463374607431768211456 = n + m := Nat.mod_eq_of_lt (by omega)
    obtain ⟨a1, a2, a3⟩ := gjump_ok hs hk n
    obtain ⟨d1, d2, d3⟩ := gjump_ok hs hk m
    have hza := gchk_ok a2
    have e := gjump_add hs hk n m
    have inj := gjump_inj hs hk (n := n) (m := m)
    have vi := vG_iff (gjump s n) (gjump s m)
    have con : n = m → gjump s n = gjump s m := fun h => by rw [h]
    simp only [vG_eq, V.agg.injEq, List.cons.injEq, V.z.injEq, V.n.injEq, V.b.injEq, true_and, and_true] at vi
    generalize hA : gjump s n = A at *
    generalize hD : gjump s m = D at *
    generalize hB : gjump A m = B at *
    simp (maxSteps := 10000000) only [go_sem, Tryz.f11, kn1, kn2, kn3, kn4, kn5, kn6, kn7, kn8, kn9, kz1, kz2, kz3, kz4, kz5, kz6, kz7, kz8, kz9, kz0, reduceCtorEq, String.reduceEq, kn0, kq1, kq2, kq3, kq4, Int.toNat_natCast, hk, hz, ho', hs', hA, hD, hB, a2, d2, hza, ← e, wI, cmpN_ge, vi]
    intros
    have : A = D ↔ n = m := ⟨fun h => inj (by omega) (by omega) h, con⟩
    rw [decide_eq_decide.2 this]; exact beq_self_eq_true _
  · have hz : (gchk s = 0) = False := eq_false (gchk_no hk)
    simp (maxSteps := 10000000) only [go_sem, Tryz.f11, kn1, kn2, kn3, kn4, kn5, kn6, kn7, kn8, kn9, kz1, kz2, kz3, kz4, kz5, kz6, kz7, kz8, kz9, kz0, reduceCtorEq, String.reduceEq, kn0, kq1, kq2, kq3, kq4, Int.toNat_natCast, hk, hz]
end Go.Proofs.YtggpbjhmpipplaaGreat.I
