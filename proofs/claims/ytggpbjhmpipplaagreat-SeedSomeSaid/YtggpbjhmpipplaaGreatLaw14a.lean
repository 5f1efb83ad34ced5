/- Chapter 14: SeedRight, SeedApart, SeedSome, as contracts. -/
import Derived.Test.YtggpbjhmpipplaaGreatLaw14
import Derived.Test.YtggpbjhmpipplaaGreatRef01a
import Derived.Test.YtggpbjhmpipplaaGreatCn5
namespace Go.Proofs.YtggpbjhmpipplaaGreat.I
open Go
open Nat renaming reduceEqDiff → kn1, reduceBEq → kn2, reducePow → kn3, reduceMod → kn4, reduceAdd → kn5, reduceSub → kn6, reduceMul → kn7, reduceDiv → kn8, reduceLeDiff → kn9, reduceLT → kn0, zero_lt_one → kq1, zero_add → kq2, zero_le → kq3, le_refl → kq4
open Int renaming reduceToNat → kz1, reduceAdd → kz2, reduceSub → kz3, reduceMul → kz4, reduceDiv → kz5, reduceMod → kz6, reduceLE → kz7, reduceLT → kz8, reduceNeg → kz9, reduceEq → kz0
set_option maxRecDepth 10000
set_option linter.unusedSimpArgs false
set_option linter.unusedVariables false

@[go_sem] noncomputable def c_law14_SeedRight : Cn := fn3 (tN .u8) (tN .u64) tW (fun _ _ _ => True) fun _ _ _ => .b true
noncomputable def cx_law14_SeedRight : Cx := { T := T, E := E, cs := [(12, c_law14_awake), (13, c_seed_New), (15, c_seed_At), (20, c_seed_Is), (23, c_gen_Check), (24, c_wide_Cmp), (25, c_gen_Limit), (26, c_gen_Jump)], sch := [(8, false, .take 0 (.take 1 (.alt 2 (.alt 3 (.take 4 (.done)) .no) .no)))], ob := [], qs := [12, 13, 15, 20, 23, 24, 25, 26] }
@[go_sem] theorem cx_law14_SeedRight_e : cx_law14_SeedRight.gs = none ∧ cx_law14_SeedRight.md = 0 ∧ cx_law14_SeedRight.T = T ∧ cx_law14_SeedRight.E = E ∧ cx_law14_SeedRight.cs = [(12, c_law14_awake), (13, c_seed_New), (15, c_seed_At), (20, c_seed_Is), (23, c_gen_Check), (24, c_wide_Cmp), (25, c_gen_Limit), (26, c_gen_Jump)] ∧ cx_law14_SeedRight.sch = [(8, false, .take 0 (.take 1 (.alt 2 (.alt 3 (.take 4 (.done)) .no) .no)))] ∧ ∀ d, (cx_law14_SeedRight.ob).contains d = false := ⟨rfl, rfl, rfl, rfl, rfl, rfl, fun _ => rfl⟩
theorem cok_law14_SeedRight : COk Tryz.prog (cx_law14_SeedRight) := cok_of rfl (.cons ok_law14_awake (.cons ok_seed_New (.cons ok_seed_At (.cons ok_seed_Is (.cons ok_gen_Check (.cons ok_wide_Cmp (.cons ok_gen_Limit (.cons ok_gen_Jump (.nil))))))))) (.cons (fun _ => fn0_quiet) (.cons (fun _ => fn2i_quiet) (.cons (fun _ => fn3j_quiet) (.cons (fun _ => fn4_quiet) (.cons (fun _ => fn1_quiet) (.cons (fun _ => fn2_quiet) (.cons (fun _ => fn1_quiet) (.cons (fun _ => fn2i_quiet) (.nil))))))))) (.nil)
set_option maxHeartbeats 4000000 in
theorem ok_law14_SeedRight : Ok Tryz.prog 4 c_law14_SeedRight := by
  refine ok_fn3 cok_law14_SeedRight mixed Tryz.func4 rfl (by kernel_rfl) (by kernel_rfl) rfl ?_
  intro q n m om hw _
  have hq : q < 256 := hw.1
  have hn : n < 18446744073709551616 := hw.2.1
  have hm := wf_w hw.2.2
  obtain ⟨k, hk⟩ : ∃ k : Int, ((q % 4 : Nat) : Int) + 1 = k := ⟨_, rfl⟩
  have hk4 : 1 ≤ k ∧ k ≤ 4 := by omega
  have h1 : (1 ≤ k) = True := eq_true hk4.1
  have h4 : (k ≤ 4) = True := eq_true hk4.2
  obtain ⟨s1, s2, s3⟩ := snew_ok hk4 hn
  have hz := gchk_ok s2
  obtain ⟨j1, j2, j3⟩ := gjump_ok s1 s2 m
  have hj := gchk_ok j2
  obtain ⟨S, hS⟩ : ∃ S, snew k n = S := ⟨_, rfl⟩
  rw [hS] at s1 s2 s3 j1 j2 j3 hz hj
  subst s3
  generalize hJ : gjump S m = J at *
  by_cases hl : glim S.kind ≤ m
  · have l1 : (glim S.kind ≤ m) = True := eq_true hl
    have l2 : (m < glim S.kind) = False := eq_false (by omega)
    simp (maxSteps := 10000000) only [go_sem, Tryz.f4, kn1, kn2, kn3, kn4, kn5, kn6, kn7, kn8, kn9, kz1, kz2, kz3, kz4, kz5, kz6, kz7, kz8, kz9, kz0, reduceCtorEq, String.reduceEq, kn0, kq1, kq2, kq3, kq4, Int.toNat_natCast, hk, h1, h4, hz, hS, hJ, cmpN_ge, l1, l2, s2, gz, x0, d0, h0, k0, false_and, and_false, decide_false]
    intros; omega
  · have l1 : (glim S.kind ≤ m) = False := eq_false hl
    have l2 : (m < glim S.kind) = True := eq_true (by omega)
    simp (maxSteps := 10000000) only [go_sem, Tryz.f4, kn1, kn2, kn3, kn4, kn5, kn6, kn7, kn8, kn9, kz1, kz2, kz3, kz4, kz5, kz6, kz7, kz8, kz9, kz0, reduceCtorEq, String.reduceEq, kn0, kq1, kq2, kq3, kq4, Int.toNat_natCast, hk, h1, h4, hz, hS, hJ, cmpN_ge, l1, l2, s2, hj, gz, x0, d0, h0, k0, false_and, and_false, decide_false]
    intros; omega

theorem wI (n m : Nat) : (n / 18446744073709551616 = m / 18446744073709551616 ∧ n % 18446744073709551616 = m % 18446744073709551616) = (n = m) := propext ⟨fun h => by omega, fun h => by subst h; exact ⟨rfl, rfl⟩⟩
@[go_sem] noncomputable def c_law14_SeedApart : Cn := fn5 (tN .u8) (tN .u64) (tN .u64) tW tW (fun _ _ _ _ _ => True) fun _ _ _ _ _ => .b true
noncomputable def cx_law14_SeedApart : Cx := { T := T, E := E, cs := [(12, c_law14_awake), (13, c_seed_New), (15, c_seed_At)], sch := [(10, false, .take 0 (.take 1 (.take 2 (.take 3 (.take 4 (.take 5 (.take 6 (.take 7 (.take 8 (.take 9 (.take 10 (.take 11 (.take 12 (.take 13 (.take 14 (.take 15 (.done)))))))))))))))))], ob := [], qs := [12, 13, 15] }
@[go_sem] theorem cx_law14_SeedApart_e : cx_law14_SeedApart.gs = none ∧ cx_law14_SeedApart.md = 0 ∧ cx_law14_SeedApart.T = T ∧ cx_law14_SeedApart.E = E ∧ cx_law14_SeedApart.cs = [(12, c_law14_awake), (13, c_seed_New), (15, c_seed_At)] ∧ cx_law14_SeedApart.sch = [(10, false, .take 0 (.take 1 (.take 2 (.take 3 (.take 4 (.take 5 (.take 6 (.take 7 (.take 8 (.take 9 (.take 10 (.take 11 (.take 12 (.take 13 (.take 14 (.take 15 (.done)))))))))))))))))] ∧ ∀ d, (cx_law14_SeedApart.ob).contains d = false := ⟨rfl, rfl, rfl, rfl, rfl, rfl, fun _ => rfl⟩
theorem cok_law14_SeedApart : COk Tryz.prog (cx_law14_SeedApart) := cok_of rfl (.cons ok_law14_awake (.cons ok_seed_New (.cons ok_seed_At (.nil)))) (.cons (fun _ => fn0_quiet) (.cons (fun _ => fn2i_quiet) (.cons (fun _ => fn3j_quiet) (.nil)))) (.nil)
set_option maxHeartbeats 4000000 in
theorem ok_law14_SeedApart : Ok Tryz.prog 5 c_law14_SeedApart := by
  refine ok_fn5 cok_law14_SeedApart mixed Tryz.func5 rfl (by kernel_rfl) (by kernel_rfl) rfl ?_
  intro q a b n m om hw _
  have hq : q < 256 := hw.1
  have ha : a < 18446744073709551616 := hw.2.1
  have hb : b < 18446744073709551616 := hw.2.2.1
  have hn := wf_w hw.2.2.2
  have hm := wf_w hw.2.2.2.2
  obtain ⟨k, hk⟩ : ∃ k : Int, ((q % 4 : Nat) : Int) + 1 = k := ⟨_, rfl⟩
  have hk4 : 1 ≤ k ∧ k ≤ 4 := by omega
  have h1 : (1 ≤ k) = True := eq_true hk4.1
  have h4 : (k ≤ 4) = True := eq_true hk4.2
  obtain ⟨s1, s2, s3⟩ := snew_ok hk4 ha
  have vi1 := vG_iff (snew k a) (snew k b)
  have vi2 := vG_iff (gjump (snew k a) n) (gjump (snew k a) m)
  have e1 : (snew k a = snew k b) = (a = b) := propext ⟨snew_inj hk4 ha hb, fun h => by rw [h]⟩
  simp only [vG_eq, V.agg.injEq, List.cons.injEq, V.z.injEq, V.n.injEq, V.b.injEq, true_and, and_true] at vi1 vi2
  have e2 : n < glim k → m < glim k → (gjump (snew k a) n = gjump (snew k a) m) = (n = m) := fun g1 g2 => propext ⟨gjump_inj s1 s2 (by rw [s3]; exact g1) (by rw [s3]; exact g2), fun h => by rw [h]⟩
  generalize hA : snew k a = A at *
  generalize hB : snew k b = B at *
  generalize hN : gjump A n = N at *
  generalize hM : gjump A m = M at *
  by_cases l1 : glim k ≤ n
  · have l1' : (glim k ≤ n) = True := eq_true l1
    simp (maxSteps := 10000000) only [go_sem, Tryz.f5, kn1, kn2, kn3, kn4, kn5, kn6, kn7, kn8, kn9, kz1, kz2, kz3, kz4, kz5, kz6, kz7, kz8, kz9, kz0, reduceCtorEq, String.reduceEq, kn0, kq1, kq2, kq3, kq4, Int.toNat_natCast, hk, h1, h4, l1', hA, hB, hN, hM, vi1, e1, bne_self_eq_false, gz, x0, d0, h0, k0]
    intros; omega
  have l1' : (glim k ≤ n) = False := eq_false l1
  by_cases l2 : glim k ≤ m
  · have l2' : (glim k ≤ m) = True := eq_true l2
    simp (maxSteps := 10000000) only [go_sem, Tryz.f5, kn1, kn2, kn3, kn4, kn5, kn6, kn7, kn8, kn9, kz1, kz2, kz3, kz4, kz5, kz6, kz7, kz8, kz9, kz0, reduceCtorEq, String.reduceEq, kn0, kq1, kq2, kq3, kq4, Int.toNat_natCast, hk, h1, h4, l1', l2', hA, hB, hN, hM, vi1, e1, bne_self_eq_false, gz, x0, d0, h0, k0]
    intros; omega
  have l2' : (glim k ≤ m) = False := eq_false l2
  have e3 := e2 (by omega) (by omega)
  simp (maxSteps := 10000000) only [go_sem, Tryz.f5, kn1, kn2, kn3, kn4, kn5, kn6, kn7, kn8, kn9, kz1, kz2, kz3, kz4, kz5, kz6, kz7, kz8, kz9, kz0, reduceCtorEq, String.reduceEq, kn0, kq1, kq2, kq3, kq4, Int.toNat_natCast, hk, h1, h4, l1', l2', hA, hB, hN, hM, vi1, e1, bne_self_eq_false, vi2, e3, wI, beq_self_eq_true]
  intros; omega

@[go_sem] noncomputable def c_law14_SeedSome : Cn := fn5 (tN .u8) (tN .u64) tW (tN .u8) (tN .u8) (fun _ _ _ _ _ => True) fun _ _ _ _ _ => .b true
noncomputable def cx_law14_SeedSome : Cx := { T := T, E := E, cs := [(12, c_law14_awake), (16, c_wide_Of), (17, c_seed_Some), (21, c_ref02_Words), (24, c_wide_Cmp), (25, c_gen_Limit), (27, c_wide_Add)], sch := [(4, false, .take 0 (.alt 1 (.alt 2 (.take 3 (.take 4 (.take 5 (.alt 6 (.alt 7 (.take 8 (.done)) .no) .no)))) (.alt 6 (.alt 2 (.take 3 (.take 4 (.take 5 (.alt 7 (.take 8 (.done)) .no)))) .no) (.no))) (.alt 6 (.alt 1 (.alt 2 (.take 3 (.take 4 (.take 5 (.alt 7 (.take 8 (.done)) .no)))) .no) .no) (.no)))), (5, false, .take 0 (.take 1 (.take 2 (.take 3 (.take 4 (.take 5 (.take 6 (.take 7 (.take 8 (.alt 9 (.alt 10 (.take 11 (.take 12 (.take 13 (.take 14 (.take 15 (.alt 16 (.take 17 (.take 18 (.done))) .no)))))) .no) .no)))))))))), (7, false, .take 0 (.take 1 (.take 2 (.alt 3 (.alt 4 (.take 5 (.take 6 (.take 7 (.alt 8 (.alt 9 (.take 10 (.done)) .no) .no)))) (.alt 8 (.alt 4 (.take 5 (.take 6 (.take 7 (.alt 9 (.take 10 (.done)) .no)))) .no) (.no))) (.alt 8 (.alt 3 (.alt 4 (.take 5 (.take 6 (.take 7 (.alt 9 (.take 10 (.done)) .no)))) .no) .no) (.no))))))], ob := [], qs := [12, 16, 17, 21, 24, 25, 27] }
@[go_sem] theorem cx_law14_SeedSome_e : cx_law14_SeedSome.gs = none ∧ cx_law14_SeedSome.md = 0 ∧ cx_law14_SeedSome.T = T ∧ cx_law14_SeedSome.E = E ∧ cx_law14_SeedSome.cs = [(12, c_law14_awake), (16, c_wide_Of), (17, c_seed_Some), (21, c_ref02_Words), (24, c_wide_Cmp), (25, c_gen_Limit), (27, c_wide_Add)] ∧ cx_law14_SeedSome.sch = [(4, false, .take 0 (.alt 1 (.alt 2 (.take 3 (.take 4 (.take 5 (.alt 6 (.alt 7 (.take 8 (.done)) .no) .no)))) (.alt 6 (.alt 2 (.take 3 (.take 4 (.take 5 (.alt 7 (.take 8 (.done)) .no)))) .no) (.no))) (.alt 6 (.alt 1 (.alt 2 (.take 3 (.take 4 (.take 5 (.alt 7 (.take 8 (.done)) .no)))) .no) .no) (.no)))), (5, false, .take 0 (.take 1 (.take 2 (.take 3 (.take 4 (.take 5 (.take 6 (.take 7 (.take 8 (.alt 9 (.alt 10 (.take 11 (.take 12 (.take 13 (.take 14 (.take 15 (.alt 16 (.take 17 (.take 18 (.done))) .no)))))) .no) .no)))))))))), (7, false, .take 0 (.take 1 (.take 2 (.alt 3 (.alt 4 (.take 5 (.take 6 (.take 7 (.alt 8 (.alt 9 (.take 10 (.done)) .no) .no)))) (.alt 8 (.alt 4 (.take 5 (.take 6 (.take 7 (.alt 9 (.take 10 (.done)) .no)))) .no) (.no))) (.alt 8 (.alt 3 (.alt 4 (.take 5 (.take 6 (.take 7 (.alt 9 (.take 10 (.done)) .no)))) .no) .no) (.no))))))] ∧ ∀ d, (cx_law14_SeedSome.ob).contains d = false := ⟨rfl, rfl, rfl, rfl, rfl, rfl, fun _ => rfl⟩
theorem cok_law14_SeedSome : COk Tryz.prog (cx_law14_SeedSome) := cok_of rfl (.cons ok_law14_awake (.cons ok_wide_Of (.cons ok_seed_Some (.cons ok_ref02_Words (.cons ok_wide_Cmp (.cons ok_gen_Limit (.cons ok_wide_Add (.nil)))))))) (.cons (fun _ => fn0_quiet) (.cons (fun _ => fn1_quiet) (.cons (fun _ => fn4i_quiet) (.cons (fun _ => fn2_quiet) (.cons (fun _ => fn2_quiet) (.cons (fun _ => fn1_quiet) (.cons (fun _ => fn2_quiet) (.nil)))))))) (.nil)
set_option maxHeartbeats 4000000 in
theorem ok_law14_SeedSome : Ok Tryz.prog 6 c_law14_SeedSome := by
  refine ok_fn5 cok_law14_SeedSome mixed Tryz.func6 rfl (by kernel_rfl) (by kernel_rfl) rfl ?_
  intro q n p a b om hw _
  have hq : q < 256 := hw.1
  have hn : n < 18446744073709551616 := hw.2.1
  have hp := wf_w hw.2.2
  have ha : a < 256 := hw.2.2.2.1
  have hb : b < 256 := hw.2.2.2.2.1
  obtain ⟨k, hk⟩ : ∃ k : Int, ((q % 4 : Nat) : Int) + 1 = k := ⟨_, rfl⟩
  have hk4 : 1 ≤ k ∧ k ≤ 4 := by omega
  have hgl := glim_lt k
  obtain ⟨s1, s2, s3⟩ := snew_ok hk4 hn
  have d256 := tW_lit (l := 256) (by omega)
  have da := tW_lit (l := a) (by omega)
  have am : a % 18446744073709551616 = a := Nat.mod_eq_of_lt (by omega)
  by_cases c1 : 100 < a
  · have c1' : (100 < a) = True := eq_true c1
    simp (maxSteps := 10000000) only [go_sem, Tryz.f6, kn1, kn2, kn3, kn4, kn5, kn6, kn7, kn8, kn9, kz1, kz2, kz3, kz4, kz5, kz6, kz7, kz8, kz9, kz0, reduceCtorEq, String.reduceEq, kn0, kq1, kq2, kq3, kq4, Int.toNat_natCast, hk, d256, c1']
    intros; omega
  have c1' : (100 < a) = False := eq_false c1
  by_cases c2 : 100 < b
  · have c2' : (100 < b) = True := eq_true c2
    simp (maxSteps := 10000000) only [go_sem, Tryz.f6, kn1, kn2, kn3, kn4, kn5, kn6, kn7, kn8, kn9, kz1, kz2, kz3, kz4, kz5, kz6, kz7, kz8, kz9, kz0, reduceCtorEq, String.reduceEq, kn0, kq1, kq2, kq3, kq4, Int.toNat_natCast, hk, d256, c1', c2']
    intros; omega
  have c2' : (100 < b) = False := eq_false c2
  by_cases c3 : glim k ≤ (p + 256) % 340282366920938463463374607431768211456
  · have c3' : (glim k ≤ (p + 256) % 340282366920938463463374607431768211456) = True := eq_true c3
    simp (maxSteps := 10000000) only [go_sem, Tryz.f6, kn1, kn2, kn3, kn4, kn5, kn6, kn7, kn8, kn9, kz1, kz2, kz3, kz4, kz5, kz6, kz7, kz8, kz9, kz0, reduceCtorEq, String.reduceEq, kn0, kq1, kq2, kq3, kq4, Int.toNat_natCast, hk, d256, c1', c2', c3', cmpN_ge]
    intros; omega
  have c3' : (glim k ≤ (p + 256) % 340282366920938463463374607431768211456) = False := eq_false c3
  by_cases c4 : (p + 256) % 340282366920938463463374607431768211456 < p
  · have c4' : ((p + 256) % 340282366920938463463374607431768211456 < p) = True := eq_true c4
    simp (maxSteps := 10000000) only [go_sem, Tryz.f6, kn1, kn2, kn3, kn4, kn5, kn6, kn7, kn8, kn9, kz1, kz2, kz3, kz4, kz5, kz6, kz7, kz8, kz9, kz0, reduceCtorEq, String.reduceEq, kn0, kq1, kq2, kq3, kq4, Int.toNat_natCast, hk, d256, c1', c2', c3', c4', cmpN_ge, cmpN_lt]
    intros; omega
  have c4' : ((p + 256) % 340282366920938463463374607431768211456 < p) = False := eq_false c4
  have pe : (p + a) % 340282366920938463463374607431768211456 = p + a := Nat.mod_eq_of_lt (by omega)
  have z1 : ssome k p ((a : Int) + b) = 0 := by unfold ssome; rw [if_pos hk4, if_neg (by omega), if_neg (by omega)]
  have z2 : ssome k p (a : Int) = 0 := by unfold ssome; rw [if_pos hk4, if_neg (by omega), if_neg (by omega)]
  have z3 : ssome k (p + a) (b : Int) = 0 := by unfold ssome; rw [if_pos hk4, if_neg (by omega), if_neg (by omega)]
  obtain ⟨j1, j2, j3⟩ := gjump_ok s1 s2 p
  have w := swords_add (gjump (snew k n) p) a b
  rw [gst_gjump j1 j2, gjump_add s1 s2] at w
  have ab : ((a : Int) + b).toNat = a + b := by omega
  have lw : ∀ s n, (swords s n).length = n := fun s n => by simp [swords]
  have ad : a / 18446744073709551616 = 0 := Nat.div_eq_of_lt (by omega)
  have lA : (swords (gjump (snew k n) p) a ++ swords (gjump (snew k n) (p + a)) b).length = a + b := by rw [List.length_append, lw, lw]
  have tA : (swords (gjump (snew k n) p) a ++ swords (gjump (snew k n) (p + a)) b).take (a + b) = swords (gjump (snew k n) p) a ++ swords (gjump (snew k n) (p + a)) b := List.take_of_length_le (Nat.le_of_eq lA)
  simp (maxSteps := 10000000) only [go_sem, Tryz.f6, kn1, kn2, kn3, kn4, kn5, kn6, kn7, kn8, kn9, kz1, kz2, kz3, kz4, kz5, kz6, kz7, kz8, kz9, kz0, reduceCtorEq, String.reduceEq, kn0, kq1, kq2, kq3, kq4, Int.toNat_natCast, hk, d256, c1', c2', c3', c4', cmpN_ge, cmpN_lt, am, da, pe, z1, z2, z3, ab, w, lw, ad, lA, tA]
  intros; omega

end Go.Proofs.YtggpbjhmpipplaaGreat.I
