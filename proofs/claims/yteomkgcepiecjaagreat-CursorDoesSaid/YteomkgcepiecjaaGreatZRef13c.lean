/- The references of layers 13 and 14: Put, word; New, Some. -/
import Derived.Test.YteomkgcepiecjaaGreatZRef13b
import Derived.Test.YteomkgcepiecjaaGreatZGen6
namespace Go.Proofs.YteomkgcepiecjaaGreat.I
open Go
open Nat renaming reduceEqDiff → kn1, reduceBEq → kn2, reducePow → kn3, reduceMod → kn4, reduceAdd → kn5, reduceSub → kn6, reduceMul → kn7, reduceDiv → kn8, reduceLeDiff → kn9, reduceLT → kn0, zero_lt_one → kq1, zero_add → kq2, zero_le → kq3, le_refl → kq4
open Int renaming reduceToNat → kz1, reduceAdd → kz2, reduceSub → kz3, reduceMul → kz4, reduceDiv → kz5, reduceMod → kz6, reduceLE → kz7, reduceLT → kz8, reduceNeg → kz9, reduceEq → kz0
set_option maxRecDepth 10000
set_option linter.unusedSimpArgs false
set_option linter.unusedVariables false
@[go_sem] noncomputable def c_law10_Own : Cn := fn1 t2 (fun _ => True) v2
noncomputable def cx_law10_Own : Cx := { T := T, E := E, cs := [], sch := [], ob := [], qs := [] }
@[go_sem] theorem cx_law10_Own_e : cx_law10_Own.gs = none ∧ cx_law10_Own.md = 0 ∧ cx_law10_Own.T = T ∧ cx_law10_Own.E = E ∧ cx_law10_Own.cs = [] ∧ ∀ d, (cx_law10_Own.ob).contains d = false := ⟨rfl, rfl, rfl, rfl, rfl, fun _ => rfl⟩
theorem cok_law10_Own : COk Tryz.prog (cx_law10_Own) := cok_of rfl (.nil) (.nil) (.nil)
theorem ok_law10_Own : Ok Tryz.prog 80 c_law10_Own := by
  refine ok_fn1 cok_law10_Own mixed Tryz.func80 rfl (by kernel_rfl) (by kernel_rfl) rfl ?_
  intro s om hw _
  simp only [go_sem, Tryz.f80, kn1, kn2, kn3, kn4, kn5, kn6, kn7, kn8, kn9, kz1, kz2, kz3, kz4, kz5, kz6, kz7, kz8, kz9, kz0, reduceCtorEq, String.reduceEq, kn0, kq1, kq2, kq3, kq4, Int.toNat_natCast]
@[go_sem] noncomputable def c_law12_Own : Cn := fn1 tH (fun _ => True) vH
noncomputable def cx_law12_Own : Cx := { T := T, E := E, cs := [], sch := [], ob := [], qs := [] }
@[go_sem] theorem cx_law12_Own_e : cx_law12_Own.gs = none ∧ cx_law12_Own.md = 0 ∧ cx_law12_Own.T = T ∧ cx_law12_Own.E = E ∧ cx_law12_Own.cs = [] ∧ ∀ d, (cx_law12_Own.ob).contains d = false := ⟨rfl, rfl, rfl, rfl, rfl, fun _ => rfl⟩
theorem cok_law12_Own : COk Tryz.prog (cx_law12_Own) := cok_of rfl (.nil) (.nil) (.nil)
theorem ok_law12_Own : Ok Tryz.prog 81 c_law12_Own := by
  refine ok_fn1 cok_law12_Own mixed Tryz.func81 rfl (by kernel_rfl) (by kernel_rfl) rfl ?_
  intro s om hw _
  simp only [go_sem, Tryz.f81, kn1, kn2, kn3, kn4, kn5, kn6, kn7, kn8, kn9, kz1, kz2, kz3, kz4, kz5, kz6, kz7, kz8, kz9, kz0, reduceCtorEq, String.reduceEq, kn0, kq1, kq2, kq3, kq4, Int.toNat_natCast]
@[go_sem] noncomputable def c_law13_Own : Cn := fn1 tG (fun _ => True) vG
noncomputable def cx_law13_Own : Cx := { T := T, E := E, cs := [(80, c_law10_Own), (81, c_law12_Own)], sch := [(1, false, .take 0 (.take 1 (.take 2 (.take 3 (.take 4 (.take 5 (.take 6 (.take 7 (.take 9 (.take 10 (.alt 8 (.alt 11 (.take 12 (.alt 13 (.done) .no)) .no) .no)))))))))))], ob := [], qs := [80, 81] }
@[go_sem] theorem cx_law13_Own_e : cx_law13_Own.gs = none ∧ cx_law13_Own.md = 0 ∧ cx_law13_Own.T = T ∧ cx_law13_Own.E = E ∧ cx_law13_Own.cs = [(80, c_law10_Own), (81, c_law12_Own)] ∧ cx_law13_Own.sch = [(1, false, .take 0 (.take 1 (.take 2 (.take 3 (.take 4 (.take 5 (.take 6 (.take 7 (.take 9 (.take 10 (.alt 8 (.alt 11 (.take 12 (.alt 13 (.done) .no)) .no) .no)))))))))))] ∧ ∀ d, (cx_law13_Own.ob).contains d = false := ⟨rfl, rfl, rfl, rfl, rfl, rfl, fun _ => rfl⟩
theorem cok_law13_Own : COk Tryz.prog (cx_law13_Own) := cok_of rfl (.cons ok_law10_Own (.cons ok_law12_Own (.nil))) (.cons (fun _ => fn1_quiet) (.cons (fun _ => fn1_quiet) (.nil))) (.nil)
theorem ok_law13_Own : Ok Tryz.prog 21 c_law13_Own := by
  refine ok_fn1 cok_law13_Own mixed Tryz.func21 rfl (by kernel_rfl) (by kernel_rfl) rfl ?_
  intro s om hw _
  simp only [go_sem, Tryz.f21, kn1, kn2, kn3, kn4, kn5, kn6, kn7, kn8, kn9, kz1, kz2, kz3, kz4, kz5, kz6, kz7, kz8, kz9, kz0, reduceCtorEq, String.reduceEq, kn0, kq1, kq2, kq3, kq4, Int.toNat_natCast]
end Go.Proofs.YteomkgcepiecjaaGreat.I
