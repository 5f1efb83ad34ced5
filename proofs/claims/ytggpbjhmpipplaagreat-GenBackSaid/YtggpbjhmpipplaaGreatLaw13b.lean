/- Chapter 13: GenBack, GenTells, as contracts. -/
import Derived.Test.YtggpbjhmpipplaaGreatLaw13
import Derived.Test.YtggpbjhmpipplaaGreatRef13c
import Derived.Test.YtggpbjhmpipplaaGreatGenB
namespace Go.Proofs.YtggpbjhmpipplaaGreat.I
open Go
open Nat renaming reduceEqDiff → kn1, reduceBEq → kn2, reducePow → kn3, reduceMod → kn4, reduceAdd → kn5, reduceSub → kn6, reduceMul → kn7, reduceDiv → kn8, reduceLeDiff → kn9, reduceLT → kn0, zero_lt_one → kq1, zero_add → kq2, zero_le → kq3, le_refl → kq4
open Int renaming reduceToNat → kz1, reduceAdd → kz2, reduceSub → kz3, reduceMul → kz4, reduceDiv → kz5, reduceMod → kz6, reduceLE → kz7, reduceLT → kz8, reduceNeg → kz9, reduceEq → kz0
set_option maxRecDepth 10000
set_option linter.unusedSimpArgs false
set_option linter.unusedVariables false

@[go_sem] noncomputable def c_law13_GenBack : Cn := fn2 tG tY8 (fun _ _ => True) fun _ _ => .b true
noncomputable def cx_law13_GenBack : Cx := { T := T, E := E, cs := [(23, c_gen_Check), (28, c_law13_awake), (30, c_gen_Put), (37, c_ref01_Same), (38, c_gen_Take)], sch := [], ob := [], qs := [23, 28, 30, 37, 38] }
@[go_sem] theorem cx_law13_GenBack_e : cx_law13_GenBack.gs = none ∧ cx_law13_GenBack.md = 0 ∧ cx_law13_GenBack.T = T ∧ cx_law13_GenBack.E = E ∧ cx_law13_GenBack.cs = [(23, c_gen_Check), (28, c_law13_awake), (30, c_gen_Put), (37, c_ref01_Same), (38, c_gen_Take)] ∧ ∀ d, (cx_law13_GenBack.ob).contains d = false := ⟨rfl, rfl, rfl, rfl, rfl, fun _ => rfl⟩
theorem cok_law13_GenBack : COk Tryz.prog (cx_law13_GenBack) := cok_of rfl (.cons ok_gen_Check (.cons ok_law13_awake (.cons ok_gen_Put (.cons ok_ref01_Same (.cons ok_gen_Take (.nil)))))) (.cons (fun _ => fn1_quiet) (.cons (fun _ => fn0_quiet) (.cons (fun _ => fn1i_quiet) (.cons (fun _ => fn2_quiet) (.cons (fun _ => fn1_quiet) (.nil)))))) (.nil)
set_option maxHeartbeats 8000000 in
theorem ok_law13_GenBack : Ok Tryz.prog 10 c_law13_GenBack := by
  refine ok_fn2 cok_law13_GenBack mixed Tryz.func10 rfl (by kernel_rfl) (by kernel_rfl) rfl ?_
  intro s b om hw _
  have hs := (wf_g hw).1
  have hb := wf_8 hw.2
  by_cases hl : 100 < b.length
  · have hl' : ((100 : Int) < (b.length : Int)) = True := eq_true (by omega)
    simp (maxSteps := 10000000) only [go_sem, Tryz.f10, kn1, kn2, kn3, kn4, kn5, kn6, kn7, kn8, kn9, kz1, kz2, kz3, kz4, kz5, kz6, kz7, kz8, kz9, kz0, reduceCtorEq, String.reduceEq, kn0, kq1, kq2, kq3, kq4, Int.toNat_natCast, hl']
  have hl' : ((100 : Int) < (b.length : Int)) = False := eq_false (by omega)
  have pt := put_take hb.2
  rw [show (gtake b).1.kind.toNat :: gput (gtake b).1 = gbytes (gtake b).1 from rfl] at pt
  have key1 : gok s → gtake (gbytes s ++ b) = (s, ((gbytes s).length : Int), 0) ∧ gtake ((gbytes s).take ((gbytes s).length - 1)) = (gz, 0, 11) ∧ 0 < (gbytes s).length ∧ (gbytes s).length ≤ 40 := fun h => by
    have h1 := take_put hs h b
    have h2 := take_cut h
    have h3 := gput_size h
    have h4 := gput_len s
    unfold gbytes
    refine ⟨?_, ?_, by simp, by simp; omega⟩
    · rw [List.cons_append, h1, List.length_cons, h3]; rfl
    · rw [List.length_cons, Nat.add_sub_cancel, h3]; exact h2
  obtain ⟨r, hr⟩ : ∃ r, gtake b = r := ⟨_, rfl⟩
  obtain ⟨T, N, E⟩ := r
  rw [hr] at pt
  simp only at pt
  by_cases hE : E = 0
  · subst hE
    obtain ⟨p1, p2, p3, p4⟩ := pt rfl
    have hz1 := gchk_ok p1
    have q1 : (N < 1) = False := eq_false (by omega)
    have q2 : ((b.length : Int) < N) = False := eq_false (by omega)
    by_cases hk : gok s
    · have hz := gchk_ok hk
      obtain ⟨k1, k2, k3, k4⟩ := key1 hk
      generalize hP : gbytes s = P at k1 k2 k3 k4
      have e1 : ((P.length : Int) - 1).toNat = P.length - 1 := by omega
      have e2 : ((P.length : Int) = 0) = False := eq_false (by omega)
      have e3 : (P ++ b).take (P.length + b.length) = P ++ b := List.take_of_length_le (by simp)
      have e4 : (P ++ b).length = P.length + b.length := List.length_append
      simp (maxSteps := 10000000) only [go_sem, Tryz.f10, kn1, kn2, kn3, kn4, kn5, kn6, kn7, kn8, kn9, kz1, kz2, kz3, kz4, kz5, kz6, kz7, kz8, kz9, kz0, reduceCtorEq, String.reduceEq, kn0, kq1, kq2, kq3, kq4, Int.toNat_natCast, hl', hr, p1, p4, hz1, q1, q2, hk, hz, hP, k1, k2, e1, e2, e3, e4, gz, x0, d0, h0, k0]
      intros; omega
    · have hz : (gchk s = 0) = False := eq_false (gchk_no hk)
      simp (maxSteps := 10000000) only [go_sem, Tryz.f10, kn1, kn2, kn3, kn4, kn5, kn6, kn7, kn8, kn9, kz1, kz2, kz3, kz4, kz5, kz6, kz7, kz8, kz9, kz0, reduceCtorEq, String.reduceEq, kn0, kq1, kq2, kq3, kq4, Int.toNat_natCast, hl', hr, p1, p4, hz1, q1, q2, hk, hz]
      intros; omega
  · have hE' : (E = 0) = False := eq_false hE
    by_cases hk : gok s
    · have hz := gchk_ok hk
      obtain ⟨k1, k2, k3, k4⟩ := key1 hk
      generalize hP : gbytes s = P at k1 k2 k3 k4
      have e1 : ((P.length : Int) - 1).toNat = P.length - 1 := by omega
      have e2 : ((P.length : Int) = 0) = False := eq_false (by omega)
      have e3 : (P ++ b).take (P.length + b.length) = P ++ b := List.take_of_length_le (by simp)
      have e4 : (P ++ b).length = P.length + b.length := List.length_append
      simp (maxSteps := 10000000) only [go_sem, Tryz.f10, kn1, kn2, kn3, kn4, kn5, kn6, kn7, kn8, kn9, kz1, kz2, kz3, kz4, kz5, kz6, kz7, kz8, kz9, kz0, reduceCtorEq, String.reduceEq, kn0, kq1, kq2, kq3, kq4, Int.toNat_natCast, hl', hr, hE', hk, hz, hP, k1, k2, e1, e2, e3, e4, gz, x0, d0, h0, k0]
      intros; omega
    · have hz : (gchk s = 0) = False := eq_false (gchk_no hk)
      simp (maxSteps := 10000000) only [go_sem, Tryz.f10, kn1, kn2, kn3, kn4, kn5, kn6, kn7, kn8, kn9, kz1, kz2, kz3, kz4, kz5, kz6, kz7, kz8, kz9, kz0, reduceCtorEq, String.reduceEq, kn0, kq1, kq2, kq3, kq4, Int.toNat_natCast, hl', hr, hE', hk, hz]
end Go.Proofs.YtggpbjhmpipplaaGreat.I
