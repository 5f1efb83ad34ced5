/- The reference of layer 14: New, Some. -/
import Derived.Test.YteomkgcepiecjaaGreatZRef13b
namespace Go.Proofs.YteomkgcepiecjaaGreat.I
open Go
open Nat renaming reduceEqDiff → kn1, reduceBEq → kn2, reducePow → kn3, reduceMod → kn4, reduceAdd → kn5, reduceSub → kn6, reduceMul → kn7, reduceDiv → kn8, reduceLeDiff → kn9, reduceLT → kn0, zero_lt_one → kq1, zero_add → kq2, zero_le → kq3, le_refl → kq4
open Int renaming reduceToNat → kz1, reduceAdd → kz2, reduceSub → kz3, reduceMul → kz4, reduceDiv → kz5, reduceMod → kz6, reduceLE → kz7, reduceLT → kz8, reduceNeg → kz9, reduceEq → kz0
set_option maxRecDepth 10000
set_option linter.unusedSimpArgs false
set_option linter.unusedVariables false
theorem half_pair {c D : Nat} (hc : c < 18446744073709551616) (hd : D < 18446744073709551616) : (c * 18446744073709551616 + D) / 18446744073709551616 = c ∧ (c * 18446744073709551616 + D) % 18446744073709551616 = D := by
  constructor <;> omega
theorem even_up {d : Nat} (hd : d < 18446744073709551616) (h : d % 2 = 0) : (d + 1) % 18446744073709551616 = d + 1 := Nat.mod_eq_of_lt (by omega)
@[go_sem] noncomputable def c_ref14_New : Cn := fn2i tZ (tN .u64) (fun _ _ => True) (fun k _ => 1 ≤ k ∧ k ≤ 4) (fun k n => .tup [vG (snew k n), .z 0]) fun _ _ => .tup [vG gz, .z 2]
noncomputable def cx_ref14_New : Cx := { T := T, E := E, cs := [(73, c_ref06_Word), (74, c_ref06_Step)], sch := [], ob := [], qs := [73, 74] }
@[go_sem] theorem cx_ref14_New_e : cx_ref14_New.gs = none ∧ cx_ref14_New.md = 0 ∧ cx_ref14_New.T = T ∧ cx_ref14_New.E = E ∧ cx_ref14_New.cs = [(73, c_ref06_Word), (74, c_ref06_Step)] ∧ ∀ d, (cx_ref14_New.ob).contains d = false := ⟨rfl, rfl, rfl, rfl, rfl, fun _ => rfl⟩
theorem cok_ref14_New : COk Tryz.prog (cx_ref14_New) := cok_of rfl (.cons ok_ref06_Word (.cons ok_ref06_Step (.nil))) (.cons (fun _ => fn1_quiet) (.cons (fun _ => fn1_quiet) (.nil))) (.nil)
set_option maxHeartbeats 4000000 in
theorem ok_ref14_New : Ok Tryz.prog 15 c_ref14_New := by
  refine ok_fn2i cok_ref14_New mixed Tryz.func15 rfl (by kernel_rfl) (by kernel_rfl) rfl ?_
  intro k n om hw _
  have l1 := sw_wf n
  have w0 : sw n = ⟨mword n, mword (mstep n), mword (mstep (mstep n)), mword (mstep (mstep (mstep n)))⟩ := rfl
  have e1 := snew_1 n
  have e2 := snew_2 n
  have e3 := snew_3 n
  have e4 := snew_4 n
  obtain ⟨s1, h1⟩ : ∃ s, mstep n = s := ⟨_, rfl⟩
  rw [h1] at w0
  obtain ⟨s2, h2⟩ : ∃ s, mstep s1 = s := ⟨_, rfl⟩
  rw [h2] at w0
  obtain ⟨s3, h3⟩ : ∃ s, mstep s2 = s := ⟨_, rfl⟩
  rw [h3] at w0
  obtain ⟨s4, h4⟩ : ∃ s, mstep s3 = s := ⟨_, rfl⟩
  obtain ⟨a, ha⟩ : ∃ s, mword n = s := ⟨_, rfl⟩
  obtain ⟨b, hb⟩ : ∃ s, mword s1 = s := ⟨_, rfl⟩
  obtain ⟨c, hc⟩ : ∃ s, mword s2 = s := ⟨_, rfl⟩
  obtain ⟨d, hd⟩ : ∃ s, mword s3 = s := ⟨_, rfl⟩
  rw [ha, hb, hc, hd] at w0
  rw [w0] at l1 e2 e3 e4
  obtain ⟨la, lb, lc, ld⟩ := l1
  simp only at la lb lc ld
  obtain ⟨S, hS⟩ : ∃ S : List Nat, S = [n, s1, s2, s3, s4] := ⟨_, rfl⟩
  obtain ⟨W, hW⟩ : ∃ W : List X4, W = [x0, ⟨a, 0, 0, 0⟩, ⟨a, b, 0, 0⟩, ⟨a, b, c, 0⟩, ⟨a, b, c, d⟩] := ⟨_, rfl⟩
  simp only [go_sem, Tryz.f15, kn1, kn2, kn3, kn4, kn5, kn6, kn7, kn8, kn9, kz1, kz2, kz3, kz4, kz5, kz6, kz7, kz8, kz9, kz0, reduceCtorEq, String.reduceEq, kn0, kq1, kq2, kq3, kq4, Int.toNat_natCast]
  refine ⟨Nat, fun i => ⟨[.z k, .n .u64 n, .u, .u, .ref 4 1 15 0 0, .z 0, .ref 6 1 4 0 0, .n .u64 (S.getD i 0), .z i, .u, .u, .u, .u, .u, .u, .u, .u, .u, .u, .u, .u, .u, .u, .u, .u, .u, .u, .u, .u, .u, .u, .u, .u, .u, .u, .u, .u, .u, .u, .u, .u, .u, .u, .u, .u, .u, .u, .u, .u, .u, .u, .u, .u, .u, .u, .u, .u, .u, .u, .u, .u, .u, .u, .u, .u], [(6, ⟨4, true, [vX (W.getD i x0)], false⟩), (4, ⟨15, true, [vG gz], false⟩)], om⟩, fun i => i ≤ 4, fun i => 4 - i, ⟨0, by omega, ?_⟩, ?_⟩
  · simp only [go_sem, kn1, kn2, kn3, kn4, kn5, kn6, kn7, kn8, kn9, kz1, kz2, kz3, kz4, kz5, kz6, kz7, kz8, kz9, kz0, reduceCtorEq, String.reduceEq, kn0, kq1, kq2, kq3, kq4, Int.toNat_natCast, hS, hW, gz, x0, d0, h0, k0]
  · intro i hi
    obtain rfl | rfl | rfl | rfl | rfl : i = 0 ∨ i = 1 ∨ i = 2 ∨ i = 3 ∨ i = 4 := by omega
    · simp only [go_sem, kn1, kn2, kn3, kn4, kn5, kn6, kn7, kn8, kn9, kz1, kz2, kz3, kz4, kz5, kz6, kz7, kz8, kz9, kz0, reduceCtorEq, String.reduceEq, kn0, kq1, kq2, kq3, kq4, Int.toNat_natCast, hS, hW, gz, x0, d0, h0, k0, ha, h1]
      exact fun _ _ => ⟨1, by omega, by simp only [List.getD_cons_zero, List.getD_cons_succ, Int.cast_ofNat_Int, and_self], by omega⟩
    · simp only [go_sem, kn1, kn2, kn3, kn4, kn5, kn6, kn7, kn8, kn9, kz1, kz2, kz3, kz4, kz5, kz6, kz7, kz8, kz9, kz0, reduceCtorEq, String.reduceEq, kn0, kq1, kq2, kq3, kq4, Int.toNat_natCast, hS, hW, gz, x0, d0, h0, k0, hb, h2]
      exact fun _ _ => ⟨2, by omega, by simp only [List.getD_cons_zero, List.getD_cons_succ, Int.cast_ofNat_Int, and_self], by omega⟩
    · simp only [go_sem, kn1, kn2, kn3, kn4, kn5, kn6, kn7, kn8, kn9, kz1, kz2, kz3, kz4, kz5, kz6, kz7, kz8, kz9, kz0, reduceCtorEq, String.reduceEq, kn0, kq1, kq2, kq3, kq4, Int.toNat_natCast, hS, hW, gz, x0, d0, h0, k0, hc, h3]
      exact fun _ _ => ⟨3, by omega, by simp only [List.getD_cons_zero, List.getD_cons_succ, Int.cast_ofNat_Int, and_self], by omega⟩
    · simp only [go_sem, kn1, kn2, kn3, kn4, kn5, kn6, kn7, kn8, kn9, kz1, kz2, kz3, kz4, kz5, kz6, kz7, kz8, kz9, kz0, reduceCtorEq, String.reduceEq, kn0, kq1, kq2, kq3, kq4, Int.toNat_natCast, hS, hW, gz, x0, d0, h0, k0, hd, h4]
      exact fun _ _ => ⟨4, by omega, by simp only [List.getD_cons_zero, List.getD_cons_succ, Int.cast_ofNat_Int, and_self], by omega⟩
    · clear h1 h2 h3 h4 ha hb hc hd w0
      by_cases k1 : k = 1
      · subst k1
        simp only [go_sem, kn1, kn2, kn3, kn4, kn5, kn6, kn7, kn8, kn9, kz1, kz2, kz3, kz4, kz5, kz6, kz7, kz8, kz9, kz0, reduceCtorEq, String.reduceEq, kn0, kq1, kq2, kq3, kq4, Int.toNat_natCast, hS, hW, e1, g1, gz, x0, d0, h0, k0]
      · have k1' : (k = 1) = False := eq_false k1
        by_cases k2 : k = 2
        · subst k2
          simp only [go_sem, kn1, kn2, kn3, kn4, kn5, kn6, kn7, kn8, kn9, kz1, kz2, kz3, kz4, kz5, kz6, kz7, kz8, kz9, kz0, reduceCtorEq, String.reduceEq, kn0, kq1, kq2, kq3, kq4, Int.toNat_natCast, hS, hW, e2, g2, gz, x0, d0, h0, k0]
        · have k2' : (k = 2) = False := eq_false k2
          by_cases k3 : k = 3
          · subst k3
            obtain ⟨q1, q2⟩ := half_pair la lb
            have lo := or1_lt ld
            obtain ⟨q3, q4⟩ : (c * 18446744073709551616 + (d ||| 1)) / 18446744073709551616 = c ∧ (c * 18446744073709551616 + (d ||| 1)) % 18446744073709551616 = d ||| 1 := by
              exact half_pair lc lo
            simp only [go_sem, kn1, kn2, kn3, kn4, kn5, kn6, kn7, kn8, kn9, kz1, kz2, kz3, kz4, kz5, kz6, kz7, kz8, kz9, kz0, reduceCtorEq, String.reduceEq, kn0, kq1, kq2, kq3, kq4, Int.toNat_natCast, hS, hW, e3, g3, pway, gz, x0, d0, h0, k0, q1, q2, q3, q4]
            rw [or1_eq]
            refine ⟨fun h => ?_, fun h => ?_⟩
            · rw [if_pos h, even_up ld h]
            · rw [if_neg h]
          · have k3' : (k = 3) = False := eq_false k3
            by_cases k4 : k = 4
            · subst k4
              simp only [go_sem, kn1, kn2, kn3, kn4, kn5, kn6, kn7, kn8, kn9, kz1, kz2, kz3, kz4, kz5, kz6, kz7, kz8, kz9, kz0, reduceCtorEq, String.reduceEq, kn0, kq1, kq2, kq3, kq4, Int.toNat_natCast, hS, hW, e4, g4, hway, gz, x0, d0, h0, k0, Nat.shiftRight_eq_div_pow, Nat.mod_mod]
            · have k4' : (k = 4) = False := eq_false k4
              rw [if_neg (by omega)]
              simp only [go_sem, kn1, kn2, kn3, kn4, kn5, kn6, kn7, kn8, kn9, kz1, kz2, kz3, kz4, kz5, kz6, kz7, kz8, kz9, kz0, reduceCtorEq, String.reduceEq, kn0, kq1, kq2, kq3, kq4, Int.toNat_natCast, hS, hW, k1', k2', k3', k4', gz, x0, d0, h0, k0]
end Go.Proofs.YteomkgcepiecjaaGreat.I
