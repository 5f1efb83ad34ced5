/- Chapter 13: GenReads, as a contract. -/
import Derived.Test.YtggpbjhmpipplaaGreatLaw13
import Derived.Test.YtggpbjhmpipplaaGreatRef13d
namespace Go.Proofs.YtggpbjhmpipplaaGreat.I
open Go
open Nat renaming reduceEqDiff → kn1, reduceBEq → kn2, reducePow → kn3, reduceMod → kn4, reduceAdd → kn5, reduceSub → kn6, reduceMul → kn7, reduceDiv → kn8, reduceLeDiff → kn9, reduceLT → kn0, zero_lt_one → kq1, zero_add → kq2, zero_le → kq3, le_refl → kq4
open Int renaming reduceToNat → kz1, reduceAdd → kz2, reduceSub → kz3, reduceMul → kz4, reduceDiv → kz5, reduceMod → kz6, reduceLE → kz7, reduceLT → kz8, reduceNeg → kz9, reduceEq → kz0
set_option maxRecDepth 10000
set_option linter.unusedSimpArgs false
set_option linter.unusedVariables false

@[go_sem] noncomputable def c_law13_GenReads : Cn := fn1 tY8 (fun _ => True) fun _ => .b true
noncomputable def cx_law13_GenReads : Cx := { T := T, E := E, cs := [(18, c_law13_Own), (28, c_law13_awake), (38, c_gen_Take), (39, c_ref13_Take)], sch := [(7, false, .take 0 (.take 2 (.alt 1 (.take 3 (.take 4 (.take 5 (.take 6 (.take 7 (.take 8 (.take 9 (.take 10 (.take 11 (.take 12 (.take 13 (.take 14 (.done))))))))))))) .no)))], ob := [], qs := [18, 28, 38, 39] }
@[go_sem] theorem cx_law13_GenReads_e : cx_law13_GenReads.gs = none ∧ cx_law13_GenReads.md = 0 ∧ cx_law13_GenReads.T = T ∧ cx_law13_GenReads.E = E ∧ cx_law13_GenReads.cs = [(18, c_law13_Own), (28, c_law13_awake), (38, c_gen_Take), (39, c_ref13_Take)] ∧ cx_law13_GenReads.sch = [(7, false, .take 0 (.take 2 (.alt 1 (.take 3 (.take 4 (.take 5 (.take 6 (.take 7 (.take 8 (.take 9 (.take 10 (.take 11 (.take 12 (.take 13 (.take 14 (.done))))))))))))) .no)))] ∧ ∀ d, (cx_law13_GenReads.ob).contains d = false := ⟨rfl, rfl, rfl, rfl, rfl, rfl, fun _ => rfl⟩
theorem cok_law13_GenReads : COk Tryz.prog (cx_law13_GenReads) := cok_of rfl (.cons ok_law13_Own (.cons ok_law13_awake (.cons ok_gen_Take (.cons ok_ref13_Take (.nil))))) (.cons (fun _ => fn1_quiet) (.cons (fun _ => fn0_quiet) (.cons (fun _ => fn1_quiet) (.cons (fun _ => fn1_quiet) (.nil))))) (.nil)
set_option maxHeartbeats 8000000 in
theorem ok_law13_GenReads : Ok Tryz.prog 8 c_law13_GenReads := by
  refine ok_fn1 cok_law13_GenReads mixed Tryz.func8 rfl (by kernel_rfl) (by kernel_rfl) rfl ?_
  intro b om hw _
  by_cases hl : 100 < b.length
  · have hl' : ((100 : Int) < (b.length : Int)) = True := eq_true (by omega)
    simp (maxSteps := 10000000) only [go_sem, Tryz.f8, kn1, kn2, kn3, kn4, kn5, kn6, kn7, kn8, kn9, kz1, kz2, kz3, kz4, kz5, kz6, kz7, kz8, kz9, kz0, reduceCtorEq, String.reduceEq, kn0, kq1, kq2, kq3, kq4, Int.toNat_natCast, hl']
  have hl' : ((100 : Int) < (b.length : Int)) = False := eq_false (by omega)
  simp (maxSteps := 10000000) only [go_sem, Tryz.f8, kn1, kn2, kn3, kn4, kn5, kn6, kn7, kn8, kn9, kz1, kz2, kz3, kz4, kz5, kz6, kz7, kz8, kz9, kz0, reduceCtorEq, String.reduceEq, kn0, kq1, kq2, kq3, kq4, Int.toNat_natCast, hl']
end Go.Proofs.YtggpbjhmpipplaaGreat.I
