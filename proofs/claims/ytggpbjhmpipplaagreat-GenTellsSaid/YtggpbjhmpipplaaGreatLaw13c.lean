/- Chapter 13: GenTells, as a contract. -/
import Derived.Test.YtggpbjhmpipplaaGreatLaw13
import Derived.Test.YtggpbjhmpipplaaGreatRef13c
namespace Go.Proofs.YtggpbjhmpipplaaGreat.I
open Go
open Nat renaming reduceEqDiff → kn1, reduceBEq → kn2, reducePow → kn3, reduceMod → kn4, reduceAdd → kn5, reduceSub → kn6, reduceMul → kn7, reduceDiv → kn8, reduceLeDiff → kn9, reduceLT → kn0, zero_lt_one → kq1, zero_add → kq2, zero_le → kq3, le_refl → kq4
open Int renaming reduceToNat → kz1, reduceAdd → kz2, reduceSub → kz3, reduceMul → kz4, reduceDiv → kz5, reduceMod → kz6, reduceLE → kz7, reduceLT → kz8, reduceNeg → kz9, reduceEq → kz0
set_option maxRecDepth 10000
set_option linter.unusedSimpArgs false
set_option linter.unusedVariables false

@[go_sem] noncomputable def c_law13_GenTells : Cn := fn2 tG tZ (fun _ _ => True) fun _ _ => .b true
noncomputable def cx_law13_GenTells : Cx := { T := T, E := E, cs := [(18, c_law13_Own), (21, c_ref02_Words), (23, c_gen_Check), (28, c_law13_awake), (29, c_ref13_Check), (30, c_gen_Put), (31, c_ref13_Put), (32, c_gen_Words), (33, c_gen_Word), (34, c_ref13_Word), (35, c_gen_Step), (36, c_ref13_Step), (37, c_ref01_Same)], sch := [(7, false, .take 0 (.take 2 (.alt 1 (.take 3 (.take 4 (.take 5 (.take 7 (.alt 6 (.alt 8 (.alt 9 (.take 10 (.take 11 (.take 12 (.take 13 (.take 16 (.alt 14 (.alt 15 (.alt 17 (.alt 18 (.take 19 (.take 20 (.take 21 (.take 22 (.take 23 (.alt 24 (.take 25 (.take 26 (.take 27 (.take 28 (.take 29 (.take 30 (.take 31 (.done)))))))) .no)))))) .no) .no) .no) .no)))))) .no) .no) .no))))) .no))), (20, false, .take 0 (.take 1 (.take 2 (.take 3 (.take 4 (.alt 5 (.take 6 (.take 7 (.take 8 (.take 10 (.alt 9 (.take 11 (.take 12 (.take 13 (.done)))) .no))))) .no))))))], ob := [], qs := [18, 21, 23, 28, 29, 30, 31, 32, 33, 34, 35, 36, 37] }
@[go_sem] theorem cx_law13_GenTells_e : cx_law13_GenTells.gs = none ∧ cx_law13_GenTells.md = 0 ∧ cx_law13_GenTells.T = T ∧ cx_law13_GenTells.E = E ∧ cx_law13_GenTells.cs = [(18, c_law13_Own), (21, c_ref02_Words), (23, c_gen_Check), (28, c_law13_awake), (29, c_ref13_Check), (30, c_gen_Put), (31, c_ref13_Put), (32, c_gen_Words), (33, c_gen_Word), (34, c_ref13_Word), (35, c_gen_Step), (36, c_ref13_Step), (37, c_ref01_Same)] ∧ cx_law13_GenTells.sch = [(7, false, .take 0 (.take 2 (.alt 1 (.take 3 (.take 4 (.take 5 (.take 7 (.alt 6 (.alt 8 (.alt 9 (.take 10 (.take 11 (.take 12 (.take 13 (.take 16 (.alt 14 (.alt 15 (.alt 17 (.alt 18 (.take 19 (.take 20 (.take 21 (.take 22 (.take 23 (.alt 24 (.take 25 (.take 26 (.take 27 (.take 28 (.take 29 (.take 30 (.take 31 (.done)))))))) .no)))))) .no) .no) .no) .no)))))) .no) .no) .no))))) .no))), (20, false, .take 0 (.take 1 (.take 2 (.take 3 (.take 4 (.alt 5 (.take 6 (.take 7 (.take 8 (.take 10 (.alt 9 (.take 11 (.take 12 (.take 13 (.done)))) .no))))) .no))))))] ∧ ∀ d, (cx_law13_GenTells.ob).contains d = false := ⟨rfl, rfl, rfl, rfl, rfl, rfl, fun _ => rfl⟩
theorem cok_law13_GenTells : COk Tryz.prog (cx_law13_GenTells) := cok_of rfl (.cons ok_law13_Own (.cons ok_ref02_Words (.cons ok_gen_Check (.cons ok_law13_awake (.cons ok_ref13_Check (.cons ok_gen_Put (.cons ok_ref13_Put (.cons ok_gen_Words (.cons ok_gen_Word (.cons ok_ref13_Word (.cons ok_gen_Step (.cons ok_ref13_Step (.cons ok_ref01_Same (.nil)))))))))))))) (.cons (fun _ => fn1_quiet) (.cons (fun _ => fn2_quiet) (.cons (fun _ => fn1_quiet) (.cons (fun _ => fn0_quiet) (.cons (fun _ => fn1_quiet) (.cons (fun _ => fn1i_quiet) (.cons (fun _ => fn1i_quiet) (.cons (fun _ => fn2j_quiet) (.cons (fun _ => fn1_quiet) (.cons (fun _ => fn1_quiet) (.cons (fun _ => fn1_quiet) (.cons (fun _ => fn1_quiet) (.cons (fun _ => fn2_quiet) (.nil)))))))))))))) (.nil)
set_option maxHeartbeats 8000000 in
theorem ok_law13_GenTells : Ok Tryz.prog 7 c_law13_GenTells := by
  refine ok_fn2 cok_law13_GenTells mixed Tryz.func7 rfl (by kernel_rfl) (by kernel_rfl) rfl ?_
  intro s n om hw _
  have hs := (wf_g hw).1
  by_cases hk : gok s
  · have hz := gchk_ok hk
    by_cases hn : n < 0 ∨ 256 < n
    · have hn' : (n < 0 ∨ 256 < n) = True := eq_true hn
      rcases hn with hn | hn
      · have hn1 : (n < 0) = True := eq_true hn
        simp (maxSteps := 10000000) only [go_sem, Tryz.f7, kn1, kn2, kn3, kn4, kn5, kn6, kn7, kn8, kn9, kz1, kz2, kz3, kz4, kz5, kz6, kz7, kz8, kz9, kz0, reduceCtorEq, String.reduceEq, kn0, kq1, kq2, kq3, kq4, Int.toNat_natCast, hn1, true_or, hk, hz, gz, x0, d0, h0, k0]
      · have hn1 : (n < 0) = False := eq_false (by omega)
        have hn2 : (256 < n) = True := eq_true hn
        simp (maxSteps := 10000000) only [go_sem, Tryz.f7, kn1, kn2, kn3, kn4, kn5, kn6, kn7, kn8, kn9, kz1, kz2, kz3, kz4, kz5, kz6, kz7, kz8, kz9, kz0, reduceCtorEq, String.reduceEq, kn0, kq1, kq2, kq3, kq4, Int.toNat_natCast, hn1, hn2, or_true, hk, hz, gz, x0, d0, h0, k0]
    · have hn1 : (n < 0) = False := eq_false (by omega)
      have hn2 : (256 < n) = False := eq_false (by omega)
      have hst := gst_ok hs hk
      simp (maxSteps := 10000000) only [go_sem, Tryz.f7, kn1, kn2, kn3, kn4, kn5, kn6, kn7, kn8, kn9, kz1, kz2, kz3, kz4, kz5, kz6, kz7, kz8, kz9, kz0, reduceCtorEq, String.reduceEq, kn0, kq1, kq2, kq3, kq4, Int.toNat_natCast, hn1, hn2, or_self, hk, hz]
      intros
      refine ⟨Nat, fun k => ⟨[.u, .z n, .ref 2 1 15 0 0, .u, .b false, .u, .u, .u, .u, .u, .sl (els (V.n .u64) ((List.range n.toNat).map fun i => gword (gst s i))), .ref 11 1 15 0 0, .z 0, .u, .row 107 k k, .ref 15 1 15 0 0, .u, .u, .u, .u, .u, .u, .u, .u, .u, .u, .u, .u, .u, .u, .u, .u, .u, .u, .u, .u, .u, .u, .u, .u, .u, .u, .u, .u, .u, .u, .u, .u, .u, .u, .u, .u, .u, .u, .u, .u, .u, .u, .u, .u, .u, .u, .u, .u, .u, .u, .u, .u, .u, .u, .u, .u, .u, .u, .u, .u, .u, .u, .u, .u, .u, .u, .u, .u, .u, .u, .u, .u, .u, .u, .u, .u, .u, .u, .u, .u, .u, .u, .u, .u, .z n, .z k, .u, .u, .u, .u, .u, .u, .u, .u, .u, .u, .u, .u, .u, .u, .u, .u, .u, .u, .u, .u, .u, .u], [(107, ⟨1, false, els (V.n .u64) ((List.range k).map fun i => gword (gst s i)), false⟩), (15, ⟨15, true, [vG (gst s k)], false⟩), (11, ⟨15, true, [vG (gst s n.toNat)], false⟩), (2, ⟨15, true, [vG s], false⟩)], om⟩, fun k => k ≤ n.toNat, fun k => n.toNat - k, ⟨0, Nat.zero_le _, ?_⟩, ?_⟩
      · simp only [go_sem, kn1, kn2, kn3, kn4, kn5, kn6, kn7, kn8, kn9, kz1, kz2, kz3, kz4, kz5, kz6, kz7, kz8, kz9, kz0, reduceCtorEq, String.reduceEq, kn0, kq1, kq2, kq3, kq4, Int.toNat_natCast, gst, List.range_zero]
      · intro k hl
        have s3 : gstep (gst s k) = gst s (k + 1) := rfl
        have s4 : (List.range k).map (fun i => gword (gst s i)) ++ [gword (gst s k)] = (List.range (k + 1)).map fun i => gword (gst s i) := by rw [List.range_succ, List.map_append]; rfl
        simp (maxSteps := 10000000) only [go_sem, kn1, kn2, kn3, kn4, kn5, kn6, kn7, kn8, kn9, kz1, kz2, kz3, kz4, kz5, kz6, kz7, kz8, kz9, kz0, reduceCtorEq, String.reduceEq, kn0, kq1, kq2, kq3, kq4, Int.toNat_natCast, ws_len, s3]
        refine ⟨fun g _ => ⟨by omega, fun _ => ⟨by omega, k + 1, by omega, ⟨⟨rfl, by omega⟩, s4, by simp only [and_self]⟩, by omega⟩⟩, fun g => ?_⟩
        obtain rfl : k = n.toNat := by omega
        rw [List.take_of_length_le (Nat.le_of_eq (ws_len s n.toNat))]
        simp only [and_self, implies_true, not_true_eq_false, false_implies]
  · have hz : (gchk s = 0) = False := eq_false (gchk_no hk)
    simp (maxSteps := 10000000) only [go_sem, Tryz.f7, kn1, kn2, kn3, kn4, kn5, kn6, kn7, kn8, kn9, kz1, kz2, kz3, kz4, kz5, kz6, kz7, kz8, kz9, kz0, reduceCtorEq, String.reduceEq, kn0, kq1, kq2, kq3, kq4, Int.toNat_natCast, hk, hz, gz, x0, d0, h0, k0]
end Go.Proofs.YtggpbjhmpipplaaGreat.I
