/- Texts of the ideal machine, or of plain numbers, one behind the other: Ref1, Ref2, Ref4. -/
import Derived.Test.YteomkgcepiecjaaGreatZG3
import Derived.Test.YteomkgcepiecjaaGreatZG1
import Derived.Test.YteomkgcepiecjaaGreatZG4
/- The references of layers 1 and 2: Bits, Trim, Parts, At, Words. -/
namespace Go.Proofs.YteomkgcepiecjaaGreat.I
open Go
open Nat renaming reduceEqDiff → kn1, reduceBEq → kn2, reducePow → kn3, reduceMod → kn4, reduceAdd → kn5, reduceSub → kn6, reduceMul → kn7, reduceDiv → kn8, reduceLeDiff → kn9, reduceLT → kn0, zero_lt_one → kq1, zero_add → kq2, zero_le → kq3, le_refl → kq4
open Int renaming reduceToNat → kz1, reduceAdd → kz2, reduceSub → kz3, reduceMul → kz4, reduceDiv → kz5, reduceMod → kz6, reduceLE → kz7, reduceLT → kz8, reduceNeg → kz9, reduceEq → kz0
set_option maxRecDepth 10000
set_option linter.unusedSimpArgs false
set_option linter.unusedVariables false
theorem take_snoc_getD {α : Type} {xs : List α} {k : Nat} (hk : k < xs.length) (d : α) : xs.take (k + 1) = xs.take k ++ [xs.getD k d] := by
  rw [List.take_succ_eq_append_getElem hk]; simp [List.getD, hk]
@[go_sem] def c_ref02_Words : Cn := fn2 tU tU (fun _ _ => True) fun xs ys => .b (decide (xs = ys))
noncomputable def cx_ref02_Words : Cx := { T := T, E := E, cs := [], sch := [(6, false, .take 0 (.take 1 (.take 2 (.take 3 (.take 4 (.take 5 (.take 6 (.take 7 (.take 8 (.done))))))))))], ob := [], qs := [] }
@[go_sem] theorem cx_ref02_Words_e : cx_ref02_Words.gs = none ∧ cx_ref02_Words.md = 0 ∧ cx_ref02_Words.T = T ∧ cx_ref02_Words.E = E ∧ cx_ref02_Words.cs = [] ∧ cx_ref02_Words.sch = [(6, false, .take 0 (.take 1 (.take 2 (.take 3 (.take 4 (.take 5 (.take 6 (.take 7 (.take 8 (.done))))))))))] ∧ ∀ d, (cx_ref02_Words.ob).contains d = false := ⟨rfl, rfl, rfl, rfl, rfl, rfl, fun _ => rfl⟩
theorem cok_ref02_Words : COk Tryz.prog (cx_ref02_Words) := cok_of rfl (.nil) (.nil) (.nil)
theorem ok_ref02_Words : Ok Tryz.prog 28 c_ref02_Words := by
  refine ok_fn2 cok_ref02_Words mixed Tryz.func28 rfl (by kernel_rfl) (by kernel_rfl) rfl ?_
  intro xs ys om hw _
  have hxl := (wf_u ⟨hw.1, trivial⟩).1
  rw [longest_eq] at hxl
  simp only [go_sem, Tryz.f28, kn1, kn2, kn3, kn4, kn5, kn6, kn7, kn8, kn9, kz1, kz2, kz3, kz4, kz5, kz6, kz7, kz8, kz9, kz0, reduceCtorEq, String.reduceEq]
  refine ⟨fun hl => ?_, fun hl => ?_⟩
  · refine ⟨Nat, fun k => ⟨[.sl (els (V.n .u64) xs), .sl (els (V.n .u64) ys), .u, .u, .u, .z k, .u, .u, .u, .u, .u, .u, .u, .u, .u, .u, .u, .u, .u, .u, .u, .u, .u, .u, .u, .u], [], om⟩, fun k => k ≤ xs.length ∧ xs.take k = ys.take k, fun k => xs.length - k, ⟨0, ⟨by omega, rfl⟩, ?_⟩, ?_⟩
    · simp only [go_sem, kn1, kn2, kn3, kn4, kn5, kn6, kn7, kn8, kn9, kz1, kz2, kz3, kz4, kz5, kz6, kz7, kz8, kz9, kz0, reduceCtorEq, String.reduceEq]
    · rintro k ⟨hk, ht⟩
      simp only [go_sem, kn1, kn2, kn3, kn4, kn5, kn6, kn7, kn8, kn9, kz1, kz2, kz3, kz4, kz5, kz6, kz7, kz8, kz9, kz0, reduceCtorEq, String.reduceEq]
      refine ⟨fun h => ⟨by omega, by omega, fun e => ⟨by omega, k + 1, ⟨by omega, ?_⟩, by omega, by omega⟩, fun e => ?_⟩, fun h => ?_⟩
      · rw [take_snoc_getD (by omega) 0, take_snoc_getD (show k < ys.length by omega) 0, ht, e]
      · rw [eq_comm, decide_eq_false_iff_not]; rintro rfl; exact e rfl
      · rw [eq_comm, decide_eq_true_iff]
        rwa [List.take_of_length_le (by omega), List.take_of_length_le (by omega)] at ht
  · rw [eq_comm, decide_eq_false_iff_not]; rintro rfl; exact hl rfl
end Go.Proofs.YteomkgcepiecjaaGreat.I
/- The references of layers 1 and 2: Word, Of, Add, Up, Mul. -/
namespace Go.Proofs.YteomkgcepiecjaaGreat.I
open Go
open Nat renaming reduceEqDiff → kn1, reduceBEq → kn2, reducePow → kn3, reduceMod → kn4, reduceAdd → kn5, reduceSub → kn6, reduceMul → kn7, reduceDiv → kn8, reduceLeDiff → kn9, reduceLT → kn0, zero_lt_one → kq1, zero_add → kq2, zero_le → kq3, le_refl → kq4
open Int renaming reduceToNat → kz1, reduceAdd → kz2, reduceSub → kz3, reduceMul → kz4, reduceDiv → kz5, reduceMod → kz6, reduceLE → kz7, reduceLT → kz8, reduceNeg → kz9, reduceEq → kz0
set_option maxRecDepth 10000
set_option linter.unusedSimpArgs false
set_option linter.unusedVariables false
end Go.Proofs.YteomkgcepiecjaaGreat.I
/- The references of layers 1 and 4: List, Len; Pow, Plain, Irreducible. -/
namespace Go.Proofs.YteomkgcepiecjaaGreat.I
open Go
open Nat renaming reduceEqDiff → kn1, reduceBEq → kn2, reducePow → kn3, reduceMod → kn4, reduceAdd → kn5, reduceSub → kn6, reduceMul → kn7, reduceDiv → kn8, reduceLeDiff → kn9, reduceLT → kn0, zero_lt_one → kq1, zero_add → kq2, zero_le → kq3, le_refl → kq4
open Int renaming reduceToNat → kz1, reduceAdd → kz2, reduceSub → kz3, reduceMul → kz4, reduceDiv → kz5, reduceMod → kz6, reduceLE → kz7, reduceLT → kz8, reduceNeg → kz9, reduceEq → kz0
set_option maxRecDepth 10000
set_option linter.unusedSimpArgs false
set_option linter.unusedVariables false
end Go.Proofs.YteomkgcepiecjaaGreat.I
