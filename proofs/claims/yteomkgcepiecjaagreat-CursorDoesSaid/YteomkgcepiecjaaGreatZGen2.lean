/- Bytes of numbers: mix.Words; wide.Put; gen: little, number, long. -/
import Derived.Test.YteomkgcepiecjaaGreatZGen1
namespace Go.Proofs.YteomkgcepiecjaaGreat.I
open Go
open Nat renaming reduceEqDiff → kn1, reduceBEq → kn2, reducePow → kn3, reduceMod → kn4, reduceAdd → kn5, reduceSub → kn6, reduceMul → kn7, reduceDiv → kn8, reduceLeDiff → kn9, reduceLT → kn0, zero_lt_one → kq1, zero_add → kq2, zero_le → kq3, le_refl → kq4
open Int renaming reduceToNat → kz1, reduceAdd → kz2, reduceSub → kz3, reduceMul → kz4, reduceDiv → kz5, reduceMod → kz6, reduceLE → kz7, reduceLT → kz8, reduceNeg → kz9, reduceEq → kz0
set_option maxRecDepth 10000
set_option linter.unusedSimpArgs false
set_option linter.unusedVariables false
def le (k n : Nat) : List Nat := (List.range k).map fun i => n >>> (8 * i) % 256
@[simp, go_sem] theorem le_len (k n : Nat) : (le k n).length = k := by simp [le]
def mixst (s : Nat) : Nat → Nat
  | 0 => s
  | n + 1 => mstep (mixst s n)
@[go_sem] def c_mix_Words : Cn := fn2i (tN .u64) tZ (fun _ _ => True) (fun _ n => n < 0 ∨ 256 < n) (fun _ _ => .tup [.sl [], .n .u64 0, .z 1]) fun s n => .tup [.sl (els (V.n .u64) ((List.range n.toNat).map fun i => mword (mixst s i))), .n .u64 (mixst s n.toNat), .z 0]
noncomputable def cx_mix_Words : Cx := { T := T, E := E, cs := [(128, c_mix_Word), (129, c_mix_Step)], sch := [], ob := [], qs := [128, 129] }
@[go_sem] theorem cx_mix_Words_e : cx_mix_Words.gs = none ∧ cx_mix_Words.md = 0 ∧ cx_mix_Words.T = T ∧ cx_mix_Words.E = E ∧ cx_mix_Words.cs = [(128, c_mix_Word), (129, c_mix_Step)] ∧ ∀ d, (cx_mix_Words.ob).contains d = false := ⟨rfl, rfl, rfl, rfl, rfl, fun _ => rfl⟩
theorem cok_mix_Words : COk Tryz.prog (cx_mix_Words) := cok_of rfl (.cons ok_mix_Word (.cons ok_mix_Step (.nil))) (.cons (fun _ => fn1_quiet) (.cons (fun _ => fn1_quiet) (.nil))) (.nil)
theorem ok_mix_Words : Ok Tryz.prog 108 c_mix_Words := by
  refine ok_fn2i cok_mix_Words mixed Tryz.func108 rfl (by kernel_rfl) (by kernel_rfl) rfl ?_
  intro s n om hw _
  simp only [go_sem, Tryz.f108, kn1, kn2, kn3, kn4, kn5, kn6, kn7, kn8, kn9, kz1, kz2, kz3, kz4, kz5, kz6, kz7, kz8, kz9, kz0, reduceCtorEq, String.reduceEq, kn0, kq1, kq2, kq3, kq4, Int.toNat_natCast]
  refine ⟨fun h => by rw [if_pos (.inl h)], fun h => ⟨fun h' => by rw [if_pos (.inr h')], fun h' => ?_⟩⟩
  rw [if_neg (by omega)]
  refine ⟨Nat, fun k => ⟨[.n .u64 (mixst s k), .u, .u, .u, .nils, .n .u64 0, .z 0, .row 21 k k, .u, .u, .u, .u, .u, .u, .z n, .z k, .u, .u, .u, .u, .u, .u, .u, .u, .u, .u, .u], [(21, ⟨1, false, els (V.n .u64) ((List.range k).map fun i => mword (mixst s i)), false⟩)], om⟩, fun k => k ≤ n.toNat, fun k => n.toNat - k, ⟨0, Nat.zero_le _, ?_⟩, ?_⟩
  · simp only [go_sem, kn1, kn2, kn3, kn4, kn5, kn6, kn7, kn8, kn9, kz1, kz2, kz3, kz4, kz5, kz6, kz7, kz8, kz9, kz0, reduceCtorEq, String.reduceEq, kn0, kq1, kq2, kq3, kq4, Int.toNat_natCast, mixst, List.range_zero]
  · intro k hk
    simp only [go_sem, kn1, kn2, kn3, kn4, kn5, kn6, kn7, kn8, kn9, kz1, kz2, kz3, kz4, kz5, kz6, kz7, kz8, kz9, kz0, reduceCtorEq, String.reduceEq, kn0, kq1, kq2, kq3, kq4, Int.toNat_natCast, List.length_map, List.length_range]
    refine ⟨fun g _ => ⟨by omega, fun _ => ⟨by omega, k + 1, by omega, ⟨⟨rfl, rfl, by omega⟩, by rw [List.range_succ, List.map_append]; rfl⟩, by omega⟩⟩, fun g => ⟨?_, by rw [show k = n.toNat by omega]⟩⟩
    rw [List.take_of_length_le (by simp), show k = n.toNat by omega]
end Go.Proofs.YteomkgcepiecjaaGreat.I
