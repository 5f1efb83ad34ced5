/- seed: ways, New, At, Is, Some. -/
import Derived.Test.YteomkgcepiecjaaGreatZGen4
namespace Go.Proofs.YteomkgcepiecjaaGreat.I
open Go
open Nat renaming reduceEqDiff → kn1, reduceBEq → kn2, reducePow → kn3, reduceMod → kn4, reduceAdd → kn5, reduceSub → kn6, reduceMul → kn7, reduceDiv → kn8, reduceLeDiff → kn9, reduceLT → kn0, zero_lt_one → kq1, zero_add → kq2, zero_le → kq3, le_refl → kq4
open Int renaming reduceToNat → kz1, reduceAdd → kz2, reduceSub → kz3, reduceMul → kz4, reduceDiv → kz5, reduceMod → kz6, reduceLE → kz7, reduceLT → kz8, reduceNeg → kz9, reduceEq → kz0
set_option maxRecDepth 10000
set_option linter.unusedSimpArgs false
set_option linter.unusedVariables false
def sw (n : Nat) : X4 := ⟨mword n, mword (mstep n), mword (mstep (mstep n)), mword (mstep (mstep (mstep n)))⟩
def pway (w : X4) : D2 := ⟨w.a * 18446744073709551616 + w.b, w.c * 18446744073709551616 + (w.d ||| 1)⟩
def hway (w : X4) : HS := ⟨0, ⟨w.a % 4294967296, w.a >>> 32 % 4294967296⟩, false⟩
def snew (k : Int) (n : Nat) : GS := if k = 1 then g1 n else if k = 2 then g2 (sw n) else if k = 3 then g3 (pway (sw n)) else g4 (hway (sw n))
theorem snew_1 (n : Nat) : snew 1 n = g1 n := if_pos rfl
theorem snew_2 (n : Nat) : snew 2 n = g2 (sw n) := by unfold snew; rw [if_neg (by decide), if_pos rfl]
theorem snew_3 (n : Nat) : snew 3 n = g3 (pway (sw n)) := by unfold snew; rw [if_neg (by decide), if_neg (by decide), if_pos rfl]
theorem snew_4 (n : Nat) : snew 4 n = g4 (hway (sw n)) := by unfold snew; rw [if_neg (by decide), if_neg (by decide), if_neg (by decide)]
theorem or1_lt {x : Nat} (h : x < 18446744073709551616) : x ||| 1 < 18446744073709551616 := Nat.or_lt_two_pow (n := 64) h (by decide)
@[go_sem] noncomputable def c_seed_ways_1 : Cn := fn2 (tN .u64) tX (fun _ _ => True) fun n _ => vG ⟨0, n, x0, d0, h0⟩
noncomputable def cx_seed_ways_1 : Cx := { T := T, E := E, cs := [], sch := [], ob := [], qs := [] }
@[go_sem] theorem cx_seed_ways_1_e : cx_seed_ways_1.gs = none ∧ cx_seed_ways_1.md = 0 ∧ cx_seed_ways_1.T = T ∧ cx_seed_ways_1.E = E ∧ cx_seed_ways_1.cs = [] ∧ ∀ d, (cx_seed_ways_1.ob).contains d = false := ⟨rfl, rfl, rfl, rfl, rfl, fun _ => rfl⟩
theorem cok_seed_ways_1 : COk Tryz.prog (cx_seed_ways_1) := cok_of rfl (.nil) (.nil) (.nil)
theorem ok_seed_ways_1 : Ok Tryz.prog 124 c_seed_ways_1 := by
  refine ok_fn2 cok_seed_ways_1 mixed Tryz.func124 rfl (by kernel_rfl) (by kernel_rfl) rfl ?_
  intro n w om hw _
  simp only [go_sem, Tryz.f124, kn1, kn2, kn3, kn4, kn5, kn6, kn7, kn8, kn9, kz1, kz2, kz3, kz4, kz5, kz6, kz7, kz8, kz9, kz0, reduceCtorEq, String.reduceEq, kn0, kq1, kq2, kq3, kq4, Int.toNat_natCast, x0, d0, h0, k0]
@[go_sem] noncomputable def c_seed_ways_2 : Cn := fn2 (tN .u64) tX (fun _ _ => True) fun _ w => vG ⟨0, 0, w, d0, h0⟩
noncomputable def cx_seed_ways_2 : Cx := { T := T, E := E, cs := [], sch := [], ob := [], qs := [] }
@[go_sem] theorem cx_seed_ways_2_e : cx_seed_ways_2.gs = none ∧ cx_seed_ways_2.md = 0 ∧ cx_seed_ways_2.T = T ∧ cx_seed_ways_2.E = E ∧ cx_seed_ways_2.cs = [] ∧ ∀ d, (cx_seed_ways_2.ob).contains d = false := ⟨rfl, rfl, rfl, rfl, rfl, fun _ => rfl⟩
theorem cok_seed_ways_2 : COk Tryz.prog (cx_seed_ways_2) := cok_of rfl (.nil) (.nil) (.nil)
theorem ok_seed_ways_2 : Ok Tryz.prog 125 c_seed_ways_2 := by
  refine ok_fn2 cok_seed_ways_2 mixed Tryz.func125 rfl (by kernel_rfl) (by kernel_rfl) rfl ?_
  intro n w om hw _
  simp only [go_sem, Tryz.f125, kn1, kn2, kn3, kn4, kn5, kn6, kn7, kn8, kn9, kz1, kz2, kz3, kz4, kz5, kz6, kz7, kz8, kz9, kz0, reduceCtorEq, String.reduceEq, kn0, kq1, kq2, kq3, kq4, Int.toNat_natCast, x0, d0, h0, k0]
@[go_sem] noncomputable def c_seed_ways_3 : Cn := fn2 (tN .u64) tX (fun _ _ => True) fun _ w => vG ⟨0, 0, x0, pway w, h0⟩
noncomputable def cx_seed_ways_3 : Cx := { T := T, E := E, cs := [], sch := [], ob := [], qs := [] }
@[go_sem] theorem cx_seed_ways_3_e : cx_seed_ways_3.gs = none ∧ cx_seed_ways_3.md = 0 ∧ cx_seed_ways_3.T = T ∧ cx_seed_ways_3.E = E ∧ cx_seed_ways_3.cs = [] ∧ ∀ d, (cx_seed_ways_3.ob).contains d = false := ⟨rfl, rfl, rfl, rfl, rfl, fun _ => rfl⟩
theorem cok_seed_ways_3 : COk Tryz.prog (cx_seed_ways_3) := cok_of rfl (.nil) (.nil) (.nil)
theorem ok_seed_ways_3 : Ok Tryz.prog 126 c_seed_ways_3 := by
  refine ok_fn2 cok_seed_ways_3 mixed Tryz.func126 rfl (by kernel_rfl) (by kernel_rfl) rfl ?_
  intro n w om hw _
  obtain ⟨w1, w2, w3, w4⟩ := wf_x hw.2
  have w5 := or1_lt w4
  simp only [go_sem, Tryz.f126, kn1, kn2, kn3, kn4, kn5, kn6, kn7, kn8, kn9, kz1, kz2, kz3, kz4, kz5, kz6, kz7, kz8, kz9, kz0, reduceCtorEq, String.reduceEq, kn0, kq1, kq2, kq3, kq4, Int.toNat_natCast, x0, h0, k0, pway]
  repeat' (first | with_reducible refine And.intro ?_ ?_ | with_reducible intro _)
  all_goals first | omega | rfl | trivial
@[go_sem] noncomputable def c_seed_ways_4 : Cn := fn2 (tN .u64) tX (fun _ _ => True) fun _ w => vG ⟨0, 0, x0, d0, hway w⟩
noncomputable def cx_seed_ways_4 : Cx := { T := T, E := E, cs := [], sch := [], ob := [], qs := [] }
@[go_sem] theorem cx_seed_ways_4_e : cx_seed_ways_4.gs = none ∧ cx_seed_ways_4.md = 0 ∧ cx_seed_ways_4.T = T ∧ cx_seed_ways_4.E = E ∧ cx_seed_ways_4.cs = [] ∧ ∀ d, (cx_seed_ways_4.ob).contains d = false := ⟨rfl, rfl, rfl, rfl, rfl, fun _ => rfl⟩
theorem cok_seed_ways_4 : COk Tryz.prog (cx_seed_ways_4) := cok_of rfl (.nil) (.nil) (.nil)
theorem ok_seed_ways_4 : Ok Tryz.prog 127 c_seed_ways_4 := by
  refine ok_fn2 cok_seed_ways_4 mixed Tryz.func127 rfl (by kernel_rfl) (by kernel_rfl) rfl ?_
  intro n w om hw _
  simp only [go_sem, Tryz.f127, kn1, kn2, kn3, kn4, kn5, kn6, kn7, kn8, kn9, kz1, kz2, kz3, kz4, kz5, kz6, kz7, kz8, kz9, kz0, reduceCtorEq, String.reduceEq, kn0, kq1, kq2, kq3, kq4, Int.toNat_natCast, x0, d0, hway]
  repeat' (first | with_reducible refine And.intro ?_ ?_ | with_reducible intro _)
  all_goals first | omega | rfl | trivial
def wayV : V := .agg [.z 1, .fn (.func 124) [] [], .z 2, .fn (.func 125) [] [], .z 3, .fn (.func 126) [] [], .z 4, .fn (.func 127) [] []]
@[go_sem] noncomputable def c_seed_ways : Cn := fn0 wayV
noncomputable def cx_seed_ways : Cx := { T := T, E := E, cs := [], sch := [], ob := [], qs := [] }
@[go_sem] theorem cx_seed_ways_e : cx_seed_ways.gs = none ∧ cx_seed_ways.md = 0 ∧ cx_seed_ways.T = T ∧ cx_seed_ways.E = E ∧ cx_seed_ways.cs = [] ∧ ∀ d, (cx_seed_ways.ob).contains d = false := ⟨rfl, rfl, rfl, rfl, rfl, fun _ => rfl⟩
theorem cok_seed_ways : COk Tryz.prog (cx_seed_ways) := cok_of rfl (.nil) (.nil) (.nil)
theorem ok_seed_ways : Ok Tryz.prog 107 c_seed_ways := by
  refine ok_fn0 cok_seed_ways mixed Tryz.func107 rfl (by kernel_rfl) (by kernel_rfl) rfl ?_
  intro om
  simp only [go_sem, Tryz.f107, kn1, kn2, kn3, kn4, kn5, kn6, kn7, kn8, kn9, kz1, kz2, kz3, kz4, kz5, kz6, kz7, kz8, kz9, kz0, reduceCtorEq, String.reduceEq, kn0, kq1, kq2, kq3, kq4, Int.toNat_natCast, wayV]
theorem words4 (n : Nat) : ((List.range 0 ++ [0] ++ [1] ++ [2] ++ [3]).map fun i => mword (mixst n i)) = [(sw n).a, (sw n).b, (sw n).c, (sw n).d] := by
  simp only [List.range_zero, List.nil_append, List.map_append, List.map_cons, List.map_nil, List.cons_append, mixst, sw]
theorem flat_nil0 : flat [] = [] := rfl
theorem flat_cons_n (k : IntKind) (x : Nat) (l : List V) : flat (.n k x :: l) = .n k x :: flat l := rfl
@[go_sem] noncomputable def c_seed_New : Cn := fn2i tZ (tN .u64) (fun _ _ => True) (fun k _ => 1 ≤ k ∧ k ≤ 4) (fun k n => .tup [vG (snew k n), .z 0]) fun _ _ => .tup [vG gz, .z 2]
noncomputable def cx_seed_New : Cx := { T := T, E := E, cs := [(107, c_seed_ways), (108, c_mix_Words), (124, c_seed_ways_1), (125, c_seed_ways_2), (126, c_seed_ways_3), (127, c_seed_ways_4)], sch := [], ob := [], qs := [107, 108, 124, 125, 126, 127] }
@[go_sem] theorem cx_seed_New_e : cx_seed_New.gs = none ∧ cx_seed_New.md = 0 ∧ cx_seed_New.T = T ∧ cx_seed_New.E = E ∧ cx_seed_New.cs = [(107, c_seed_ways), (108, c_mix_Words), (124, c_seed_ways_1), (125, c_seed_ways_2), (126, c_seed_ways_3), (127, c_seed_ways_4)] ∧ ∀ d, (cx_seed_New.ob).contains d = false := ⟨rfl, rfl, rfl, rfl, rfl, fun _ => rfl⟩
theorem cok_seed_New : COk Tryz.prog (cx_seed_New) := cok_of rfl (.cons ok_seed_ways (.cons ok_mix_Words (.cons ok_seed_ways_1 (.cons ok_seed_ways_2 (.cons ok_seed_ways_3 (.cons ok_seed_ways_4 (.nil))))))) (.cons (fun _ => fn0_quiet) (.cons (fun _ => fn2i_quiet) (.cons (fun _ => fn2_quiet) (.cons (fun _ => fn2_quiet) (.cons (fun _ => fn2_quiet) (.cons (fun _ => fn2_quiet) (.nil))))))) (.nil)
set_option maxHeartbeats 4000000 in
theorem ok_seed_New : Ok Tryz.prog 75 c_seed_New := by
  refine ok_fn2i cok_seed_New mixed Tryz.func75 rfl (by kernel_rfl) (by kernel_rfl) rfl ?_
  intro k n om hw _
  obtain ⟨w, hwd⟩ : ∃ w, sw n = w := ⟨_, rfl⟩
  have w4 := words4 n
  rw [hwd] at w4
  obtain ⟨y, hy⟩ : ∃ y, mixst n 4 = y := ⟨_, rfl⟩
  have e1 := snew_1 n
  have e2 := snew_2 n
  have e3 := snew_3 n
  have e4 := snew_4 n
  rw [hwd] at e2 e3 e4
  simp only [go_sem, Tryz.f75, kn1, kn2, kn3, kn4, kn5, kn6, kn7, kn8, kn9, kz1, kz2, kz3, kz4, kz5, kz6, kz7, kz8, kz9, kz0, reduceCtorEq, String.reduceEq, kn0, kq1, kq2, kq3, kq4, Int.toNat_natCast]
  refine fun _ => ⟨Nat, fun i => ⟨[.z k, .n .u64 n, .u, .u, .ref 4 1 15 0 0, .z 0, .u, .u, .u, .u, .u, .u, .u, wayV, .z i, .u, .u, .u, .u, .u, .u, .u, .u, .u, .u, .u, .u, .u, .u, .u, .u, .u, .u, .u, .u, .u, .u, .u, .u, .u], [(4, ⟨15, true, [vG gz], false⟩)], om⟩, fun i => i ≤ 4 ∧ (1 ≤ k ∧ k ≤ 4 → (i : Int) < k), fun i => 4 - i, ⟨0, ⟨by omega, by omega⟩, ?_⟩, ?_⟩
  · simp only [go_sem, kn1, kn2, kn3, kn4, kn5, kn6, kn7, kn8, kn9, kz1, kz2, kz3, kz4, kz5, kz6, kz7, kz8, kz9, kz0, reduceCtorEq, String.reduceEq, kn0, kq1, kq2, kq3, kq4, Int.toNat_natCast, wayV, gz, x0, d0, h0, k0]
  · rintro i ⟨hi, hk⟩
    obtain rfl | rfl | rfl | rfl | rfl : i = 0 ∨ i = 1 ∨ i = 2 ∨ i = 3 ∨ i = 4 := by omega
    · by_cases e : k = 1
      · subst e
        simp only [go_sem, kn1, kn2, kn3, kn4, kn5, kn6, kn7, kn8, kn9, kz1, kz2, kz3, kz4, kz5, kz6, kz7, kz8, kz9, kz0, reduceCtorEq, String.reduceEq, kn0, kq1, kq2, kq3, kq4, Int.toNat_natCast, c_seed_ways_1, wayV, w4, hy, e1, g1, gz, x0, d0, h0, k0, Nat.min_self, flat_nil0, flat_cons_n]
      · have e' : ((1 : Int) = k) = False := eq_false (by omega)
        simp only [go_sem, kn1, kn2, kn3, kn4, kn5, kn6, kn7, kn8, kn9, kz1, kz2, kz3, kz4, kz5, kz6, kz7, kz8, kz9, kz0, reduceCtorEq, String.reduceEq, kn0, kq1, kq2, kq3, kq4, Int.toNat_natCast, wayV, e', gz, x0, d0, h0, k0]
        exact ⟨1, ⟨by omega, fun h => by have := hk h; omega⟩, by omega, by omega⟩
    · by_cases e : k = 2
      · subst e
        simp only [go_sem, kn1, kn2, kn3, kn4, kn5, kn6, kn7, kn8, kn9, kz1, kz2, kz3, kz4, kz5, kz6, kz7, kz8, kz9, kz0, reduceCtorEq, String.reduceEq, kn0, kq1, kq2, kq3, kq4, Int.toNat_natCast, c_seed_ways_2, wayV, w4, hy, e2, g2, gz, x0, d0, h0, k0, Nat.min_self, flat_nil0, flat_cons_n]
      · have e' : ((2 : Int) = k) = False := eq_false (by omega)
        simp only [go_sem, kn1, kn2, kn3, kn4, kn5, kn6, kn7, kn8, kn9, kz1, kz2, kz3, kz4, kz5, kz6, kz7, kz8, kz9, kz0, reduceCtorEq, String.reduceEq, kn0, kq1, kq2, kq3, kq4, Int.toNat_natCast, wayV, e', gz, x0, d0, h0, k0]
        exact ⟨2, ⟨by omega, fun h => by have := hk h; omega⟩, by omega, by omega⟩
    · by_cases e : k = 3
      · subst e
        simp only [go_sem, kn1, kn2, kn3, kn4, kn5, kn6, kn7, kn8, kn9, kz1, kz2, kz3, kz4, kz5, kz6, kz7, kz8, kz9, kz0, reduceCtorEq, String.reduceEq, kn0, kq1, kq2, kq3, kq4, Int.toNat_natCast, c_seed_ways_3, wayV, w4, hy, e3, g3, gz, x0, d0, h0, k0, Nat.min_self, flat_nil0, flat_cons_n]
      · have e' : ((3 : Int) = k) = False := eq_false (by omega)
        simp only [go_sem, kn1, kn2, kn3, kn4, kn5, kn6, kn7, kn8, kn9, kz1, kz2, kz3, kz4, kz5, kz6, kz7, kz8, kz9, kz0, reduceCtorEq, String.reduceEq, kn0, kq1, kq2, kq3, kq4, Int.toNat_natCast, wayV, e', gz, x0, d0, h0, k0]
        exact ⟨3, ⟨by omega, fun h => by have := hk h; omega⟩, by omega, by omega⟩
    · by_cases e : k = 4
      · subst e
        simp only [go_sem, kn1, kn2, kn3, kn4, kn5, kn6, kn7, kn8, kn9, kz1, kz2, kz3, kz4, kz5, kz6, kz7, kz8, kz9, kz0, reduceCtorEq, String.reduceEq, kn0, kq1, kq2, kq3, kq4, Int.toNat_natCast, c_seed_ways_4, wayV, w4, hy, e4, g4, gz, x0, d0, h0, k0, Nat.min_self, flat_nil0, flat_cons_n]
      · have e' : ((4 : Int) = k) = False := eq_false (by omega)
        simp only [go_sem, kn1, kn2, kn3, kn4, kn5, kn6, kn7, kn8, kn9, kz1, kz2, kz3, kz4, kz5, kz6, kz7, kz8, kz9, kz0, reduceCtorEq, String.reduceEq, kn0, kq1, kq2, kq3, kq4, Int.toNat_natCast, wayV, e', gz, x0, d0, h0, k0]
        exact ⟨4, ⟨by omega, fun h => by have := hk h; omega⟩, by omega, by omega⟩
    · have e : ¬ (1 ≤ k ∧ k ≤ 4) := fun h => by have := hk h; omega
      rw [if_neg e]
      simp only [go_sem, kn1, kn2, kn3, kn4, kn5, kn6, kn7, kn8, kn9, kz1, kz2, kz3, kz4, kz5, kz6, kz7, kz8, kz9, kz0, reduceCtorEq, String.reduceEq, kn0, kq1, kq2, kq3, kq4, Int.toNat_natCast, wayV, gz, x0, d0, h0, k0]
end Go.Proofs.YteomkgcepiecjaaGreat.I
