/- The reference of layer 1: Cmp, Sub, List, Right. -/
import Derived.Test.YtlcnohmnemmbdaaRef01d
import Derived.Test.YtlcnohmnemmbdaaG5
namespace Go.Proofs.Ytlcnohmnemmbdaa.I
open Go
open Nat renaming reduceEqDiff → kn1, reduceBEq → kn2, reducePow → kn3, reduceMod → kn4, reduceAdd → kn5, reduceSub → kn6, reduceMul → kn7, reduceDiv → kn8, reduceLeDiff → kn9, reduceLT → kn0, zero_lt_one → kq1, zero_add → kq2, zero_le → kq3, le_refl → kq4
open Int renaming reduceToNat → kz1, reduceAdd → kz2, reduceSub → kz3, reduceMul → kz4, reduceDiv → kz5, reduceMod → kz6, reduceLE → kz7, reduceLT → kz8, reduceNeg → kz9, reduceEq → kz0
set_option maxRecDepth 10000
set_option linter.unusedSimpArgs false
set_option linter.unusedVariables false

theorem bits_app2 {i j m n : Nat} (h : m < 2 ^ i) : bitsL i m ++ bitsL j n = bitsL (i + j) (2 ^ i * n + m) := by
  apply List.ext_getElem
  · simp [bitsL]
  · intro k h1 h2
    simp only [bitsL_len, List.length_append] at h1 h2
    rw [List.getElem_append]
    simp only [bitsL, List.length_map, List.length_range, List.getElem_map, List.getElem_range, bitI, Nat.testBit_two_pow_mul_add n h]
    by_cases hk : k < i
    · simp only [hk, dif_pos, if_true]
    · simp only [hk, dif_neg, if_false, not_false_eq_true]
@[go_sem] noncomputable def c_ref01_Cmp : Cn := fn2 tW tW (fun _ _ => True) fun x y => .z (cmpN x y)
noncomputable def cx_ref01_Cmp : Cx := { T := T, E := E, cs := [], sch := [], ob := [], qs := [] }
@[go_sem] theorem cx_ref01_Cmp_e : cx_ref01_Cmp.gs = none ∧ cx_ref01_Cmp.md = 0 ∧ cx_ref01_Cmp.T = T ∧ cx_ref01_Cmp.E = E ∧ cx_ref01_Cmp.cs = [] ∧ ∀ d, (cx_ref01_Cmp.ob).contains d = false := ⟨rfl, rfl, rfl, rfl, rfl, fun _ => rfl⟩
theorem cok_ref01_Cmp : COk Try.prog (cx_ref01_Cmp) := cok_of rfl (.nil) (.nil) (.nil)
theorem ok_ref01_Cmp : Ok Try.prog 37 c_ref01_Cmp := by
  refine ok_fn2 cok_ref01_Cmp mixed Try.func37 rfl (by kernel_rfl) (by kernel_rfl) rfl ?_
  intro x y om hw _
  have hx := wf_w hw
  have hy := wf_w hw.2
  have e1 : (x / 18446744073709551616 = y / 18446744073709551616 ∧ x % 18446744073709551616 = y % 18446744073709551616) = (x = y) := propext ⟨fun h => by omega, fun h => by subst h; exact ⟨rfl, rfl⟩⟩
  simp only [go_sem, Try.f37, kn1, kn2, kn3, kn4, kn5, kn6, kn7, kn8, kn9, kz1, kz2, kz3, kz4, kz5, kz6, kz7, kz8, kz9, kz0, reduceCtorEq, String.reduceEq, kn0, kq1, kq2, kq3, kq4, Int.toNat_natCast, e1]
  unfold cmpN
  refine ⟨fun h => ?_, fun h => ⟨fun h1 => ?_, fun h1 => ⟨fun h2 => ⟨fun h3 => ?_, fun h3 => ?_⟩, fun h2 => ?_⟩⟩⟩ <;> (repeat' split) <;> first | rfl | omega
@[go_sem] noncomputable def c_ref01_Sub : Cn := fn2 tW tW (fun _ _ => True) fun x y => .tup [vW ((x + 340282366920938463463374607431768211456 - y) % 340282366920938463463374607431768211456), .b (decide (x < y))]
noncomputable def tr_ref01_Sub : List (Nat × Bool × Sch) := [(6, false, .take 0 (.take 1 (.alt 2 (.alt 3 (.take 4 (.take 5 (.take 6 (.alt 7 (.alt 8 (.take 9 (.done)) .no) .no)))) (.alt 7 (.alt 3 (.take 4 (.take 5 (.take 6 (.alt 8 (.take 9 (.done)) .no)))) .no) (.no))) (.alt 7 (.alt 2 (.alt 3 (.take 4 (.take 5 (.take 6 (.alt 8 (.take 9 (.done)) .no)))) .no) .no) (.no))))), (8, false, .take 0 (.take 1 (.take 3 (.alt 2 (.alt 4 (.take 5 (.take 6 (.take 7 (.take 9 (.alt 8 (.alt 10 (.take 11 (.take 12 (.take 13 (.take 15 (.alt 14 (.alt 16 (.take 17 (.take 18 (.take 19 (.alt 20 (.take 21 (.done)) .no)))) (.alt 20 (.take 16 (.take 17 (.take 18 (.take 19 (.take 21 (.done)))))) (.no))) (.alt 16 (.alt 14 (.take 17 (.take 18 (.take 19 (.alt 20 (.take 21 (.done)) .no)))) (.alt 20 (.take 14 (.take 17 (.take 18 (.take 19 (.take 21 (.done)))))) (.no))) (.alt 20 (.take 14 (.take 16 (.take 17 (.take 18 (.take 19 (.take 21 (.done))))))) (.no)))))))) .no) (.alt 10 (.alt 8 (.take 11 (.take 12 (.take 13 (.take 15 (.alt 14 (.alt 16 (.take 17 (.take 18 (.take 19 (.alt 20 (.take 21 (.done)) .no)))) (.alt 20 (.take 16 (.take 17 (.take 18 (.take 19 (.take 21 (.done)))))) (.no))) (.alt 16 (.alt 14 (.take 17 (.take 18 (.take 19 (.alt 20 (.take 21 (.done)) .no)))) (.alt 20 (.take 14 (.take 17 (.take 18 (.take 19 (.take 21 (.done)))))) (.no))) (.alt 20 (.take 14 (.take 16 (.take 17 (.take 18 (.take 19 (.take 21 (.done))))))) (.no)))))))) .no) (.no))))))) .no) (.alt 4 (.alt 2 (.take 5 (.take 6 (.take 7 (.take 9 (.alt 8 (.alt 10 (.take 11 (.take 12 (.take 13 (.take 15 (.alt 14 (.alt 16 (.take 17 (.take 18 (.take 19 (.alt 20 (.take 21 (.done)) .no)))) (.alt 20 (.take 16 (.take 17 (.take 18 (.take 19 (.take 21 (.done)))))) (.no))) (.alt 16 (.alt 14 (.take 17 (.take 18 (.take 19 (.alt 20 (.take 21 (.done)) .no)))) (.alt 20 (.take 14 (.take 17 (.take 18 (.take 19 (.take 21 (.done)))))) (.no))) (.alt 20 (.take 14 (.take 16 (.take 17 (.take 18 (.take 19 (.take 21 (.done))))))) (.no)))))))) .no) (.alt 10 (.alt 8 (.take 11 (.take 12 (.take 13 (.take 15 (.alt 14 (.alt 16 (.take 17 (.take 18 (.take 19 (.alt 20 (.take 21 (.done)) .no)))) (.alt 20 (.take 16 (.take 17 (.take 18 (.take 19 (.take 21 (.done)))))) (.no))) (.alt 16 (.alt 14 (.take 17 (.take 18 (.take 19 (.alt 20 (.take 21 (.done)) .no)))) (.alt 20 (.take 14 (.take 17 (.take 18 (.take 19 (.take 21 (.done)))))) (.no))) (.alt 20 (.take 14 (.take 16 (.take 17 (.take 18 (.take 19 (.take 21 (.done))))))) (.no)))))))) .no) (.no))))))) .no) (.no))))))]
noncomputable def cx_ref01_Sub : Cx := { T := T, E := E, cs := [(39, c_ref01_Add), (51, c_ref01_digits), (52, c_ref01_whole)], sch := tr_ref01_Sub, ob := [], qs := [39, 51, 52] }
attribute [go_sem] tr_ref01_Sub
@[go_sem] theorem cx_ref01_Sub_e : cx_ref01_Sub.gs = none ∧ cx_ref01_Sub.md = 0 ∧ cx_ref01_Sub.T = T ∧ cx_ref01_Sub.E = E ∧ cx_ref01_Sub.cs = [(39, c_ref01_Add), (51, c_ref01_digits), (52, c_ref01_whole)] ∧ cx_ref01_Sub.sch = tr_ref01_Sub ∧ ∀ d, (cx_ref01_Sub.ob).contains d = false := ⟨rfl, rfl, rfl, rfl, rfl, rfl, fun _ => rfl⟩
theorem cok_ref01_Sub : COk Try.prog (cx_ref01_Sub) := cok_of rfl (.cons ok_ref01_Add (.cons ok_ref01_digits (.cons ok_ref01_whole (.nil)))) (.cons (fun _ => fn2_quiet) (.cons (fun _ => fn1_quiet) (.cons (fun _ => fn1_quiet) (.nil)))) (.nil)
set_option maxHeartbeats 1000000 in
theorem ok_ref01_Sub : Ok Try.prog 40 c_ref01_Sub := by
  refine ok_fn2 cok_ref01_Sub mixed Try.func40 rfl (by kernel_rfl) (by kernel_rfl) rfl ?_
  intro m n om hw _
  have hm := wf_w hw
  have hn := wf_w hw.2
  obtain ⟨y, hy⟩ : ∃ y, dg n = y := ⟨_, rfl⟩
  have dy := dg_dig hn
  have vy := dval_dg (n := n)
  rw [hy] at dy vy
  obtain ⟨y1, y2, y3, y4⟩ := dy
  obtain ⟨Y, hY⟩ : ∃ Y : List X4, Y = [y, ⟨4294967295 - y.a, y.b, y.c, y.d⟩, ⟨4294967295 - y.a, 4294967295 - y.b, y.c, y.d⟩, ⟨4294967295 - y.a, 4294967295 - y.b, 4294967295 - y.c, y.d⟩, ⟨4294967295 - y.a, 4294967295 - y.b, 4294967295 - y.c, 4294967295 - y.d⟩] := ⟨_, rfl⟩
  have d1 := tW_lit (l := 1) (by omega)
  simp only [go_sem, Try.f40, kn1, kn2, kn3, kn4, kn5, kn6, kn7, kn8, kn9, kz1, kz2, kz3, kz4, kz5, kz6, kz7, kz8, kz9, kz0, reduceCtorEq, String.reduceEq, kn0, kq1, kq2, kq3, kq4, Int.toNat_natCast, hy]
  refine fun _ => ⟨Nat, fun k => ⟨[.u, .u, .ref 2 1 2 0 0, .ref 3 1 2 0 0, .ref 4 1 2 0 0, .b false, .ref 6 1 4 0 0, .z k, .u, .u, .u, .u, .u, .u, .u, .u, .u, .u, .u, .u, .u, .u, .u, .u, .u, .u, .u, .u, .u, .u, .u, .u, .u, .u, .u, .u, .u, .u, .u, .u, .u, .u, .u, .u, .u, .u, .u, .u, .u, .u, .u, .u, .u, .u, .u, .u, .u], [(6, ⟨4, true, [vX (Y.getD k y)], false⟩), (4, ⟨2, true, [vW 0], false⟩), (3, ⟨2, true, [vW n], false⟩), (2, ⟨2, true, [vW m], false⟩)], om⟩, fun k => k ≤ 4, fun k => 4 - k, ⟨0, by omega, ?_⟩, ?_⟩
  · simp only [go_sem, kn1, kn2, kn3, kn4, kn5, kn6, kn7, kn8, kn9, kz1, kz2, kz3, kz4, kz5, kz6, kz7, kz8, kz9, kz0, reduceCtorEq, String.reduceEq, kn0, kq1, kq2, kq3, kq4, Int.toNat_natCast, hY]
  · intro k hk
    obtain rfl | rfl | rfl | rfl | rfl : k = 0 ∨ k = 1 ∨ k = 2 ∨ k = 3 ∨ k = 4 := by omega
    all_goals simp only [go_sem, kn1, kn2, kn3, kn4, kn5, kn6, kn7, kn8, kn9, kz1, kz2, kz3, kz4, kz5, kz6, kz7, kz8, kz9, kz0, reduceCtorEq, String.reduceEq, kn0, kq1, kq2, kq3, kq4, Int.toNat_natCast, hY, d1]
    · exact ⟨1, by omega, by simp only [List.getD_cons_succ, List.getD_cons_zero]; refine ⟨rfl, ?_, ?_, ?_, ?_⟩ <;> first | rfl | omega, by omega⟩
    · exact ⟨2, by omega, by simp only [List.getD_cons_succ, List.getD_cons_zero]; refine ⟨rfl, ?_, ?_, ?_, ?_⟩ <;> first | rfl | omega, by omega⟩
    · exact ⟨3, by omega, by simp only [List.getD_cons_succ, List.getD_cons_zero]; refine ⟨rfl, ?_, ?_, ?_, ?_⟩ <;> first | rfl | omega, by omega⟩
    · exact ⟨4, by omega, by simp only [List.getD_cons_succ, List.getD_cons_zero]; refine ⟨rfl, ?_, ?_, ?_, ?_⟩ <;> first | rfl | omega, by omega⟩
    · have hW : dval ⟨4294967295 - y.a, 4294967295 - y.b, 4294967295 - y.c, 4294967295 - y.d⟩ = 340282366920938463463374607431768211455 - n := by rw [← vy]; simp only [dval]; omega
      have eS : ((m + (340282366920938463463374607431768211455 - n)) % 340282366920938463463374607431768211456 + 1) % 340282366920938463463374607431768211456 = (m + 340282366920938463463374607431768211456 - n) % 340282366920938463463374607431768211456 := by omega
      simp only [hW, eS]
      refine ⟨⟨by show 4294967295 - y.a < _; omega, by show 4294967295 - y.b < _; omega, by show 4294967295 - y.c < _; omega, by show 4294967295 - y.d < _; omega⟩, fun _ _ _ => ⟨fun h => ⟨⟨trivial, trivial⟩, (decide_eq_true (by omega)).symm⟩, fun h => ⟨fun h2 => ⟨⟨trivial, trivial⟩, decide_eq_decide.2 ⟨fun _ => by omega, fun _ => by omega⟩⟩, fun h2 => ⟨⟨trivial, trivial⟩, (decide_eq_false (by omega)).symm⟩⟩⟩⟩
@[go_sem] noncomputable def c_ref01_Of : Cn := fn1 tZs (fun l => good l ∧ l.length ≤ 1000000) fun l => vW (bv l % 340282366920938463463374607431768211456)
noncomputable def cx_ref01_Of : Cx := { T := T, E := E, cs := [(60, c_ref01_Word)], sch := [], ob := [], qs := [60] }
@[go_sem] theorem cx_ref01_Of_e : cx_ref01_Of.gs = none ∧ cx_ref01_Of.md = 0 ∧ cx_ref01_Of.T = T ∧ cx_ref01_Of.E = E ∧ cx_ref01_Of.cs = [(60, c_ref01_Word)] ∧ ∀ d, (cx_ref01_Of.ob).contains d = false := ⟨rfl, rfl, rfl, rfl, rfl, fun _ => rfl⟩
theorem cok_ref01_Of : COk Try.prog (cx_ref01_Of) := cok_of rfl (.cons ok_ref01_Word (.nil)) (.cons (fun _ => fn2_quiet) (.nil)) (.nil)
theorem ok_ref01_Of : Ok Try.prog 49 c_ref01_Of := by
  refine ok_fn1 cok_ref01_Of mixed Try.func49 rfl (by kernel_rfl) (by kernel_rfl) rfl ?_
  intro l om hw ⟨hg, hl⟩
  simp only [go_sem, Try.f49, kn1, kn2, kn3, kn4, kn5, kn6, kn7, kn8, kn9, kz1, kz2, kz3, kz4, kz5, kz6, kz7, kz8, kz9, kz0, reduceCtorEq, String.reduceEq, kn0, kq1, kq2, kq3, kq4, Int.toNat_natCast, hg, hl]
  intro _ _
  rw [Nat.shiftRight_eq_div_pow]
  refine ⟨?_, ?_⟩
  · omega
  · rw [Nat.shiftRight_zero]; omega

@[go_sem] noncomputable def c_ref01_Right : Cn := fn2 tW tZ (fun _ n => 0 ≤ n ∧ n ≤ 128) fun x n => vW (x >>> n.toNat)
noncomputable def cx_ref01_Right : Cx := { T := T, E := E, cs := [(49, c_ref01_Of), (50, c_ref01_List)], sch := [], ob := [], qs := [49, 50] }
@[go_sem] theorem cx_ref01_Right_e : cx_ref01_Right.gs = none ∧ cx_ref01_Right.md = 0 ∧ cx_ref01_Right.T = T ∧ cx_ref01_Right.E = E ∧ cx_ref01_Right.cs = [(49, c_ref01_Of), (50, c_ref01_List)] ∧ ∀ d, (cx_ref01_Right.ob).contains d = false := ⟨rfl, rfl, rfl, rfl, rfl, fun _ => rfl⟩
theorem cok_ref01_Right : COk Try.prog (cx_ref01_Right) := cok_of rfl (.cons ok_ref01_Of (.cons ok_ref01_List (.nil))) (.cons (fun _ => fn1_quiet) (.cons (fun _ => fn1_quiet) (.nil))) (.nil)
theorem ok_ref01_Right : Ok Try.prog 38 c_ref01_Right := by
  refine ok_fn2 cok_ref01_Right mixed Try.func38 rfl (by kernel_rfl) (by kernel_rfl) rfl ?_
  intro x n om hw hn
  have n1 : (n < 0) = False := eq_false (by omega)
  have n2 : (128 < n) = False := eq_false (by omega)
  have hx := wf_w hw
  have ed : (bitsL 128 x).drop n.toNat = bitsL (128 - n.toNat) (x >>> n.toNat) := by
    apply List.ext_getElem
    · simp [bitsL]
    · intro k h1 h2
      simp only [bitsL, List.getElem_drop, List.getElem_map, List.getElem_range, bitI, Nat.testBit_shiftRight]
  have ev : (x >>> n.toNat) % 2 ^ (128 - n.toNat) = x >>> n.toNat := by
    apply Nat.mod_eq_of_lt
    rw [Nat.shiftRight_eq_div_pow, Nat.div_lt_iff_lt_mul (Nat.two_pow_pos _), ← Nat.pow_add, show 128 - n.toNat + n.toNat = 128 by omega]
    exact hx
  have el : (x >>> n.toNat) % 340282366920938463463374607431768211456 = x >>> n.toNat := by
    apply Nat.mod_eq_of_lt
    exact Nat.lt_of_le_of_lt (Nat.shiftRight_le _ _) hx
  simp only [go_sem, Try.f38, kn1, kn2, kn3, kn4, kn5, kn6, kn7, kn8, kn9, kz1, kz2, kz3, kz4, kz5, kz6, kz7, kz8, kz9, kz0, reduceCtorEq, String.reduceEq, kn0, kq1, kq2, kq3, kq4, Int.toNat_natCast, n1, n2, ed, bv_bitsL, ev, el, bitsL_len]
  exact ⟨hn, by omega⟩
end Go.Proofs.Ytlcnohmnemmbdaa.I
