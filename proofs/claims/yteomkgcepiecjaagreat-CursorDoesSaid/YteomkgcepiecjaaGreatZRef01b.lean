/- The reference of layer 1: Cmp, Sub, List, Right. -/
import Derived.Test.YteomkgcepiecjaaGreatZRef01d
import Derived.Test.YteomkgcepiecjaaGreatZG5
namespace Go.Proofs.YteomkgcepiecjaaGreat.I
open Go
open Nat renaming reduceEqDiff → kn1, reduceBEq → kn2, reducePow → kn3, reduceMod → kn4, reduceAdd → kn5, reduceSub → kn6, reduceMul → kn7, reduceDiv → kn8, reduceLeDiff → kn9, reduceLT → kn0, zero_lt_one → kq1, zero_add → kq2, zero_le → kq3, le_refl → kq4
open Int renaming reduceToNat → kz1, reduceAdd → kz2, reduceSub → kz3, reduceMul → kz4, reduceDiv → kz5, reduceMod → kz6, reduceLE → kz7, reduceLT → kz8, reduceNeg → kz9, reduceEq → kz0
set_option maxRecDepth 10000
set_option linter.unusedSimpArgs false
set_option linter.unusedVariables false
@[go_sem] noncomputable def c_ref01_Cmp : Cn := fn2 tW tW (fun _ _ => True) fun x y => .z (cmpN x y)
noncomputable def cx_ref01_Cmp : Cx := { T := T, E := E, cs := [], sch := [], ob := [], qs := [] }
@[go_sem] theorem cx_ref01_Cmp_e : cx_ref01_Cmp.gs = none ∧ cx_ref01_Cmp.md = 0 ∧ cx_ref01_Cmp.T = T ∧ cx_ref01_Cmp.E = E ∧ cx_ref01_Cmp.cs = [] ∧ ∀ d, (cx_ref01_Cmp.ob).contains d = false := ⟨rfl, rfl, rfl, rfl, rfl, fun _ => rfl⟩
theorem cok_ref01_Cmp : COk Tryz.prog (cx_ref01_Cmp) := cok_of rfl (.nil) (.nil) (.nil)
theorem ok_ref01_Cmp : Ok Tryz.prog 50 c_ref01_Cmp := by
  refine ok_fn2 cok_ref01_Cmp mixed Tryz.func50 rfl (by kernel_rfl) (by kernel_rfl) rfl ?_
  intro x y om hw _
  have hx := wf_w hw
  have hy := wf_w hw.2
  have e1 : (x / 18446744073709551616 = y / 18446744073709551616 ∧ x % 18446744073709551616 = y % 18446744073709551616) = (x = y) := propext ⟨fun h => by omega, fun h => by subst h; exact ⟨rfl, rfl⟩⟩
  simp only [go_sem, Tryz.f50, kn1, kn2, kn3, kn4, kn5, kn6, kn7, kn8, kn9, kz1, kz2, kz3, kz4, kz5, kz6, kz7, kz8, kz9, kz0, reduceCtorEq, String.reduceEq, kn0, kq1, kq2, kq3, kq4, Int.toNat_natCast, e1]
  unfold cmpN
  refine ⟨fun h => ?_, fun h => ⟨fun h1 => ?_, fun h1 => ⟨fun h2 => ⟨fun h3 => ?_, fun h3 => ?_⟩, fun h2 => ?_⟩⟩⟩ <;> (repeat' split) <;> first | rfl | omega
@[go_sem] noncomputable def c_ref01_Sub : Cn := fn2 tW tW (fun _ _ => True) fun x y => .tup [vW ((x + 340282366920938463463374607431768211456 - y) % 340282366920938463463374607431768211456), .b (decide (x < y))]
noncomputable def tr_ref01_Sub : List (Nat × Bool × Sch) := [(6, false, .take 0 (.take 1 (.alt 2 (.alt 3 (.take 4 (.take 5 (.take 6 (.alt 7 (.alt 8 (.take 9 (.done)) .no) .no)))) (.alt 7 (.alt 3 (.take 4 (.take 5 (.take 6 (.alt 8 (.take 9 (.done)) .no)))) .no) (.no))) (.alt 7 (.alt 2 (.alt 3 (.take 4 (.take 5 (.take 6 (.alt 8 (.take 9 (.done)) .no)))) .no) .no) (.no))))), (8, false, .take 0 (.take 1 (.take 3 (.alt 2 (.alt 4 (.take 5 (.take 6 (.take 7 (.take 9 (.alt 8 (.alt 10 (.take 11 (.take 12 (.take 13 (.take 15 (.alt 14 (.alt 16 (.take 17 (.take 18 (.take 19 (.alt 20 (.take 21 (.done)) .no)))) (.alt 20 (.take 16 (.take 17 (.take 18 (.take 19 (.take 21 (.done)))))) (.no))) (.alt 16 (.alt 14 (.take 17 (.take 18 (.take 19 (.alt 20 (.take 21 (.done)) .no)))) (.alt 20 (.take 14 (.take 17 (.take 18 (.take 19 (.take 21 (.done)))))) (.no))) (.alt 20 (.take 14 (.take 16 (.take 17 (.take 18 (.take 19 (.take 21 (.done))))))) (.no)))))))) .no) (.alt 10 (.alt 8 (.take 11 (.take 12 (.take 13 (.take 15 (.alt 14 (.alt 16 (.take 17 (.take 18 (.take 19 (.alt 20 (.take 21 (.done)) .no)))) (.alt 20 (.take 16 (.take 17 (.take 18 (.take 19 (.take 21 (.done)))))) (.no))) (.alt 16 (.alt 14 (.take 17 (.take 18 (.take 19 (.alt 20 (.take 21 (.done)) .no)))) (.alt 20 (.take 14 (.take 17 (.take 18 (.take 19 (.take 21 (.done)))))) (.no))) (.alt 20 (.take 14 (.take 16 (.take 17 (.take 18 (.take 19 (.take 21 (.done))))))) (.no)))))))) .no) (.no))))))) .no) (.alt 4 (.alt 2 (.take 5 (.take 6 (.take 7 (.take 9 (.alt 8 (.alt 10 (.take 11 (.take 12 (.take 13 (.take 15 (.alt 14 (.alt 16 (.take 17 (.take 18 (.take 19 (.alt 20 (.take 21 (.done)) .no)))) (.alt 20 (.take 16 (.take 17 (.take 18 (.take 19 (.take 21 (.done)))))) (.no))) (.alt 16 (.alt 14 (.take 17 (.take 18 (.take 19 (.alt 20 (.take 21 (.done)) .no)))) (.alt 20 (.take 14 (.take 17 (.take 18 (.take 19 (.take 21 (.done)))))) (.no))) (.alt 20 (.take 14 (.take 16 (.take 17 (.take 18 (.take 19 (.take 21 (.done))))))) (.no)))))))) .no) (.alt 10 (.alt 8 (.take 11 (.take 12 (.take 13 (.take 15 (.alt 14 (.alt 16 (.take 17 (.take 18 (.take 19 (.alt 20 (.take 21 (.done)) .no)))) (.alt 20 (.take 16 (.take 17 (.take 18 (.take 19 (.take 21 (.done)))))) (.no))) (.alt 16 (.alt 14 (.take 17 (.take 18 (.take 19 (.alt 20 (.take 21 (.done)) .no)))) (.alt 20 (.take 14 (.take 17 (.take 18 (.take 19 (.take 21 (.done)))))) (.no))) (.alt 20 (.take 14 (.take 16 (.take 17 (.take 18 (.take 19 (.take 21 (.done))))))) (.no)))))))) .no) (.no))))))) .no) (.no))))))]
noncomputable def cx_ref01_Sub : Cx := { T := T, E := E, cs := [(49, c_ref01_Add), (77, c_ref01_digits), (78, c_ref01_whole)], sch := tr_ref01_Sub, ob := [], qs := [49, 77, 78] }
attribute [go_sem] tr_ref01_Sub
@[go_sem] theorem cx_ref01_Sub_e : cx_ref01_Sub.gs = none ∧ cx_ref01_Sub.md = 0 ∧ cx_ref01_Sub.T = T ∧ cx_ref01_Sub.E = E ∧ cx_ref01_Sub.cs = [(49, c_ref01_Add), (77, c_ref01_digits), (78, c_ref01_whole)] ∧ cx_ref01_Sub.sch = tr_ref01_Sub ∧ ∀ d, (cx_ref01_Sub.ob).contains d = false := ⟨rfl, rfl, rfl, rfl, rfl, rfl, fun _ => rfl⟩
theorem cok_ref01_Sub : COk Tryz.prog (cx_ref01_Sub) := cok_of rfl (.cons ok_ref01_Add (.cons ok_ref01_digits (.cons ok_ref01_whole (.nil)))) (.cons (fun _ => fn2_quiet) (.cons (fun _ => fn1_quiet) (.cons (fun _ => fn1_quiet) (.nil)))) (.nil)
set_option maxHeartbeats 1000000 in
theorem ok_ref01_Sub : Ok Tryz.prog 18 c_ref01_Sub := by
  refine ok_fn2 cok_ref01_Sub mixed Tryz.func18 rfl (by kernel_rfl) (by kernel_rfl) rfl ?_
  intro m n om hw _
  have hm := wf_w hw
  have hn := wf_w hw.2
  obtain ⟨y, hy⟩ : ∃ y, dg n = y := ⟨_, rfl⟩
  have dy := dg_dig hn
  have vy := dval_dg (n := n)
  rw [hy] at dy vy
  obtain ⟨y1, y2, y3, y4⟩ := dy
  obtain ⟨Y, hY⟩ : ∃ Y : List X4, Y = [y, ⟨4294967295 - y.a, y.b, y.c, y.d⟩, ⟨4294967295 - y.a, 4294967295 - y.b, y.c, y.d⟩, ⟨4294967295 - y.a, 4294967295 - y.b, 4294967295 - y.c, y.d⟩, ⟨4294967295 - y.a, 4294967295 - y.b, 4294967295 - y.c, 4294967295 - y.d⟩] := ⟨_, rfl⟩
  have d1 := tW_lit (l := 1) (by omega)
  simp only [go_sem, Tryz.f18, kn1, kn2, kn3, kn4, kn5, kn6, kn7, kn8, kn9, kz1, kz2, kz3, kz4, kz5, kz6, kz7, kz8, kz9, kz0, reduceCtorEq, String.reduceEq, kn0, kq1, kq2, kq3, kq4, Int.toNat_natCast, hy]
  refine fun _ => ⟨Nat, fun k => ⟨[.u, .u, .ref 2 1 2 0 0, .ref 3 1 2 0 0, .ref 4 1 2 0 0, .b false, .ref 6 1 4 0 0, .z k, .u, .u, .u, .u, .u, .u, .u, .u, .u, .u, .u, .u, .u, .u, .u, .u, .u, .u, .u, .u, .u, .u, .u, .u, .u, .u, .u, .u, .u, .u, .u, .u, .u, .u, .u, .u, .u, .u, .u, .u, .u, .u, .u, .u, .u, .u, .u, .u, .u], [(6, ⟨4, true, [vX (Y.getD k y)], false⟩), (4, ⟨2, true, [vW 0], false⟩), (3, ⟨2, true, [vW n], false⟩), (2, ⟨2, true, [vW m], false⟩)], om⟩, fun k => k ≤ 4, fun k => 4 - k, ⟨0, by omega, ?_⟩, ?_⟩
  · simp only [go_sem, kn1, kn2, kn3, kn4, kn5, kn6, kn7, kn8, kn9, kz1, kz2, kz3, kz4, kz5, kz6, kz7, kz8, kz9, kz0, reduceCtorEq, String.reduceEq, kn0, kq1, kq2, kq3, kq4, Int.toNat_natCast, hY]
  · intro k hk
    obtain rfl | rfl | rfl | rfl | rfl : k = 0 ∨ k = 1 ∨ k = 2 ∨ k = 3 ∨ k = 4 := by omega
    all_goals simp only [go_sem, kn1, kn2, kn3, kn4, kn5, kn6, kn7, kn8, kn9, kz1, kz2, kz3, kz4, kz5, kz6, kz7, kz8, kz9, kz0, reduceCtorEq, String.reduceEq, kn0, kq1, kq2, kq3, kq4, Int.toNat_natCast, hY, d1]
    · exact ⟨1, by omega, by simp only [List.getD_cons_succ, List.getD_cons_zero]; refine ⟨rfl, ?_, ?_, ?_, ?_⟩ <;> first | rfl | omega, by omega⟩
    · exact ⟨2, by omega, by simp only [List.getD_cons_succ, List.getD_cons_zero]; refine ⟨rfl, ?_, ?_, ?_, ?_⟩ <;> first | rfl | omega, by omega⟩
    · exact ⟨3, by omega, by simp only [List.getD_cons_succ, List.getD_cons_zero]; refine ⟨rfl, ?_, ?_, ?_, ?_⟩ <;> first | rfl | omega, by omega⟩
    · exact ⟨4, by omega, by simp only [List.getD_cons_succ, List.getD_cons_zero]; refine ⟨rfl, ?_, ?_, ?_, ?_⟩ <;> first | rfl | omega, by omega⟩
    · have hW : dval ⟨4294967295 - y.a, 4294967295 - y.b, 4294967295 - y.c, 4294967295 - y.d⟩ = 340282366920938463463374607431768211455 - n := by rw [← vy]; simp only [dval]; omega
      have eS : ((m + (340282366920938463463374607431768211455 - n)) % 340282366920938463463374607431768211456 + 1) % 340282366920938463463374607431768211456 = (m + 340282366920938463463374607431768211456 - n) % 340282366920938463463374607431768211456 := by omega
      simp only [hW, eS]
      refine ⟨⟨by show 4294967295 - y.a < _; omega, by show 4294967295 - y.b < _; omega, by show 4294967295 - y.c < _; omega, by show 4294967295 - y.d < _; omega⟩, fun _ _ _ => ⟨fun h => ⟨⟨trivial, trivial⟩, (decide_eq_true (by omega)).symm⟩, fun h => ⟨fun h2 => ⟨⟨trivial, trivial⟩, decide_eq_decide.2 ⟨fun _ => by omega, fun _ => by omega⟩⟩, fun h2 => ⟨⟨trivial, trivial⟩, (decide_eq_false (by omega)).symm⟩⟩⟩⟩
end Go.Proofs.YteomkgcepiecjaaGreat.I
