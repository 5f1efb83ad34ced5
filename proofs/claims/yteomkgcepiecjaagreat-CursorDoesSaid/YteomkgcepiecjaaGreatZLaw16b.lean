/- Chapter 16: CursorBuffer, as a contract. -/
import Derived.Test.YteomkgcepiecjaaGreatZLaw16a
import Derived.Test.YteomkgcepiecjaaGreatZG5
namespace Go.Proofs.YteomkgcepiecjaaGreat.I
open Go
open Nat renaming reduceEqDiff → kn1, reduceBEq → kn2, reducePow → kn3, reduceMod → kn4, reduceAdd → kn5, reduceSub → kn6, reduceMul → kn7, reduceDiv → kn8, reduceLeDiff → kn9, reduceLT → kn0, zero_lt_one → kq1, zero_add → kq2, zero_le → kq3, le_refl → kq4
open Int renaming reduceToNat → kz1, reduceAdd → kz2, reduceSub → kz3, reduceMul → kz4, reduceDiv → kz5, reduceMod → kz6, reduceLE → kz7, reduceLT → kz8, reduceNeg → kz9, reduceEq → kz0
set_option maxRecDepth 100000
set_option linter.unusedSimpArgs false
set_option linter.unusedVariables false
theorem cmpN_eq0 (x y : Nat) : (cmpN x y = 0) = (x = y) := by
  unfold cmpN; apply propext; split
  · constructor <;> intro h <;> omega
  · split <;> constructor <;> intro h <;> omega
@[go_sem] noncomputable def c_law16_CursorBuffer : Cn := fn4 (tN .u8) (tN .u64) tW (tL tAc) (fun _ _ _ _ => True) fun _ _ _ _ => .b true
noncomputable def cx_law16_CursorBuffer : Cx := { T := T, E := E, cs := [(14, c_law16_awake), (16, c_cursor_New), (17, c_wide_Of), (22, c_cursor_Cursor_State), (23, c_cursor_Cursor_Next), (25, c_cursor_Cursor_Skip), (27, c_cursor_Cursor_Place), (28, c_ref02_Words), (29, c_cursor_Cursor_Buffered), (33, c_seed_Some), (35, c_wide_Add), (36, c_wide_Cmp), (37, c_gen_Limit), (38, c_seed_Is)], sch := [(18, false, .take 0 (.take 1 (.take 2 (.take 3 (.alt 4 (.alt 5 (.take 6 (.take 7 (.take 8 (.alt 9 (.alt 10 (.take 11 (.done)) .no) .no)))) (.alt 9 (.alt 5 (.take 6 (.take 7 (.take 8 (.alt 10 (.take 11 (.done)) .no)))) .no) (.no))) (.alt 9 (.alt 4 (.alt 5 (.take 6 (.take 7 (.take 8 (.alt 10 (.take 11 (.done)) .no)))) .no) .no) (.no))))))), (19, false, .take 0 (.take 1 (.take 2 (.take 3 (.take 4 (.take 5 (.take 6 (.take 7 (.take 8 (.alt 9 (.alt 10 (.take 11 (.take 12 (.done))) .no) .no)))))))))), (21, false, .take 0 (.take 1 (.alt 2 (.alt 3 (.take 4 (.done)) .no) .no))), (23, false, .take 0 (.take 1 (.take 2 (.take 3 (.take 4 (.alt 5 (.take 6 (.take 7 (.take 8 (.take 9 (.take 11 (.take 12 (.take 13 (.alt 10 (.alt 14 (.take 15 (.take 16 (.done))) .no) .no)))))))) .no))))))], ob := [], qs := [14, 16, 17, 22, 27, 28, 29, 33, 35, 36, 37, 38] }
@[go_sem] theorem cx_law16_CursorBuffer_e : cx_law16_CursorBuffer.gs = none ∧ cx_law16_CursorBuffer.md = 0 ∧ cx_law16_CursorBuffer.T = T ∧ cx_law16_CursorBuffer.E = E ∧ cx_law16_CursorBuffer.cs = [(14, c_law16_awake), (16, c_cursor_New), (17, c_wide_Of), (22, c_cursor_Cursor_State), (23, c_cursor_Cursor_Next), (25, c_cursor_Cursor_Skip), (27, c_cursor_Cursor_Place), (28, c_ref02_Words), (29, c_cursor_Cursor_Buffered), (33, c_seed_Some), (35, c_wide_Add), (36, c_wide_Cmp), (37, c_gen_Limit), (38, c_seed_Is)] ∧ cx_law16_CursorBuffer.sch = [(18, false, .take 0 (.take 1 (.take 2 (.take 3 (.alt 4 (.alt 5 (.take 6 (.take 7 (.take 8 (.alt 9 (.alt 10 (.take 11 (.done)) .no) .no)))) (.alt 9 (.alt 5 (.take 6 (.take 7 (.take 8 (.alt 10 (.take 11 (.done)) .no)))) .no) (.no))) (.alt 9 (.alt 4 (.alt 5 (.take 6 (.take 7 (.take 8 (.alt 10 (.take 11 (.done)) .no)))) .no) .no) (.no))))))), (19, false, .take 0 (.take 1 (.take 2 (.take 3 (.take 4 (.take 5 (.take 6 (.take 7 (.take 8 (.alt 9 (.alt 10 (.take 11 (.take 12 (.done))) .no) .no)))))))))), (21, false, .take 0 (.take 1 (.alt 2 (.alt 3 (.take 4 (.done)) .no) .no))), (23, false, .take 0 (.take 1 (.take 2 (.take 3 (.take 4 (.alt 5 (.take 6 (.take 7 (.take 8 (.take 9 (.take 11 (.take 12 (.take 13 (.alt 10 (.alt 14 (.take 15 (.take 16 (.done))) .no) .no)))))))) .no))))))] ∧ ∀ d, (cx_law16_CursorBuffer.ob).contains d = false := ⟨rfl, rfl, rfl, rfl, rfl, rfl, fun _ => rfl⟩
theorem cok_law16_CursorBuffer : COk Tryz.prog (cx_law16_CursorBuffer) := cok_of rfl (.cons ok_law16_awake (.cons ok_cursor_New (.cons ok_wide_Of (.cons ok_cursor_Cursor_State (.cons ok_cursor_Cursor_Next (.cons ok_cursor_Cursor_Skip (.cons ok_cursor_Cursor_Place (.cons ok_ref02_Words (.cons ok_cursor_Cursor_Buffered (.cons ok_seed_Some (.cons ok_wide_Add (.cons ok_wide_Cmp (.cons ok_gen_Limit (.cons ok_seed_Is (.nil))))))))))))))) (.cons (fun _ => fn0_quiet) (.cons (fun _ => nw3_quiet) (.cons (fun _ => fn1_quiet) (.cons (fun _ => om0_quiet) (.cons (fun h => absurd h (by decide)) (.cons (fun h => absurd h (by decide)) (.cons (fun _ => om0_quiet) (.cons (fun _ => fn2_quiet) (.cons (fun _ => om0_quiet) (.cons (fun _ => fn4i_quiet) (.cons (fun _ => fn2_quiet) (.cons (fun _ => fn2_quiet) (.cons (fun _ => fn1_quiet) (.cons (fun _ => fn4_quiet) (.nil))))))))))))))) (.nil)
set_option maxHeartbeats 4000000 in
theorem ok_law16_CursorBuffer : Ok Tryz.prog 5 c_law16_CursorBuffer := by
  refine ok_fn4 cok_law16_CursorBuffer mixed Tryz.func5 rfl (by kernel_rfl) (by kernel_rfl) rfl ?_
  intro q n p l om hw _
  have hq : q < 256 := hw.1
  have hn : n < 18446744073709551616 := hw.2.1
  have hp := wf_w hw.2.2
  have hl : ∀ x ∈ l, _ := (wf_Ac (l := l) (vs := []) ⟨hw.2.2.2.1, trivial⟩).2
  rw [show (tL tAc).enc l = .sl (els vAc l) from rfl]
  obtain ⟨k, hk⟩ : ∃ k : Int, ((q % 4 : Nat) : Int) + 1 = k := ⟨_, rfl⟩
  have hk4 : 1 ≤ k ∧ k ≤ 4 := by omega
  have hgl := glim_lt k
  by_cases c0 : 60 < l.length
  · have c0' : ((60 : Int) < (l.length : Int)) = True := eq_true (by omega)
    simp (maxSteps := 10000000) only [go_sem, Tryz.f5, kn1, kn2, kn3, kn4, kn5, kn6, kn7, kn8, kn9, kz1, kz2, kz3, kz4, kz5, kz6, kz7, kz8, kz9, kz0, reduceCtorEq, String.reduceEq, kn0, kq1, kq2, kq3, kq4, Int.toNat_natCast, c0']
  have c0' : ((60 : Int) < (l.length : Int)) = False := eq_false (by omega)
  by_cases c1 : p ≤ glim k
  · have e0 : nerr k p = 0 := by rw [nerr_4 hk4, if_pos c1]
    simp (maxSteps := 10000000) only [go_sem, Tryz.f5, kn1, kn2, kn3, kn4, kn5, kn6, kn7, kn8, kn9, kz1, kz2, kz3, kz4, kz5, kz6, kz7, kz8, kz9, kz0, reduceCtorEq, String.reduceEq, kn0, kq1, kq2, kq3, kq4, Int.toNat_natCast, c0', hk, e0]
    refine ⟨by omega, by omega, fun id hid cs hcs => ?_⟩
    simp (maxSteps := 10000000) only [go_sem, kn1, kn2, kn3, kn4, kn5, kn6, kn7, kn8, kn9, kz1, kz2, kz3, kz4, kz5, kz6, kz7, kz8, kz9, kz0, reduceCtorEq, String.reduceEq, kn0, kq1, kq2, kq3, kq4, Int.toNat_natCast]
    refine ⟨Nat × Cu × List V, fun s => ⟨[.u, .n .u64 n, .u, .u, .u, .u, .u, .u, .b false, .z k, .obj id 0, .u, .u, .u, .u, .u, .u, .u, .u, .u, .u, .u, .u, .u, .u, .u, .u, .u, .u, .u, .u, .u, .u, .u, .u, .u, .u, .u, .u, .u, .u, .u, .u, .u, .u, .u, .u, .sl (els vAc l), .z l.length, .z s.1, .u, .u, .u, .u, .u, .u, .u, .u, .u, .u, .u, .u, .u, .u, .u, .u, .u, .u, .u, .u, .u, .u, .u, .u, .u, .u, .u, .u, .u, .u, .u, .u, .u, .u, .u, .u, .u, .u, .u, .u, .u, .u, .u, .u, .u, .u, .u, .u, .u, .u, .u, .u, .u, .u, .u, .u, .u, .u, .u, .u, .u, .u, .u, .u, .u, .u, .u, .u, .u, .u, .u, .u, .u], [], om.put id s.2.2⟩,
      fun s => s.1 ≤ l.length ∧ cuOf id s.2.2 = some s.2.1 ∧ s.2.1.k = k ∧ s.2.1.n = n, fun s => l.length - s.1, ⟨(0, ⟨k, n, p, 0⟩, cs), ⟨Nat.zero_le _, hcs, rfl, rfl⟩, ?_⟩, ?_⟩
    · simp only [go_sem, kn1, kn2, kn3, kn4, kn5, kn6, kn7, kn8, kn9, kz1, kz2, kz3, kz4, kz5, kz6, kz7, kz8, kz9, kz0, reduceCtorEq, String.reduceEq, kn0, kq1, kq2, kq3, kq4, Int.toNat_natCast]
    · rintro ⟨i, ⟨k', n', r, m⟩, ds⟩ ⟨hi, hds, ek, en⟩
      obtain rfl : k' = k := ek
      obtain rfl : n' = n := en
      simp only at hi hds
      by_cases c : i < l.length
      · have c' : ((i : Int) < (l.length : Int)) = True := eq_true (by omega)
        obtain ⟨A, hA⟩ : ∃ A, l.getD i zAc = A := ⟨_, rfl⟩
        have wA : A.n < 340282366920938463463374607431768211456 := by
          rw [← hA, List.getD_eq_getElem?_getD, List.getElem?_eq_getElem c]; exact (hl _ (List.getElem_mem c)).1
        have fin : ∀ (c : Cu) (ds' : List V) (om' : Om), c.k = k' → c.n = n' → cuOf id ds' = some c → OmKept (om.put id ds') om' → ∃ y : Nat × Cu × List V, (y.1 ≤ l.length ∧ cuOf id y.2.2 = some y.2.1 ∧ y.2.1.k = k' ∧ y.2.1.n = n') ∧ ((i : Int) + 1 = (y.1 : Nat) ∧ OmKept (om.put id y.2.2) om') ∧ l.length - y.1 < l.length - i := fun c ds' om' g1 g2 g3 g4 =>
          ⟨(i + 1, c, ds'), ⟨by show i + 1 ≤ _; omega, g3, g1, g2⟩, ⟨by show _ = ((i + 1 : Nat) : Int); omega, g4⟩, by show l.length - (i + 1) < _; omega⟩
        have same : ∀ r2 m2, r = r2 → m = m2 → cuOf id ds = some ⟨k', n', r2, m2⟩ := fun r2 m2 a b => by rw [← a, ← b]; exact hds
        by_cases d0 : A.d = 0
        · have d0' := eq_true d0
          by_cases c2 : r < glim k'
          · have c2' := eq_true c2
            simp (maxSteps := 10000000) only [go_sem, kn1, kn2, kn3, kn4, kn5, kn6, kn7, kn8, kn9, kz1, kz2, kz3, kz4, kz5, kz6, kz7, kz8, kz9, kz0, reduceCtorEq, String.reduceEq, kn0, kq1, kq2, kq3, kq4, Int.toNat_natCast, c', eAc_get, hA, d0', hds, c2']
            refine ⟨by omega, fun ds1 h1 => ?_⟩
            obtain ⟨r2, m2, h1⟩ : ∃ r2 m2, cuOf id ds1 = some ⟨k', n', r2, m2⟩ := ⟨_, _, h1⟩
            obtain ⟨x2, w2, -, ok2, -⟩ := cuOf_inv h1
            have q0 : r2 + m2 ≤ glim k' := ok2.2.2.2
            have q8 : m2 ≤ 8 := ok2.2.2.1
            have e1 : (r2 + m2) % 340282366920938463463374607431768211456 = r2 + m2 := by omega
            have tm := tW_lit (l := m2) (by omega)
            have em : ((m2 : Int) % 18446744073709551616).toNat = m2 := by omega
            have z1 : (8 < (m2 : Int)) = False := eq_false (by omega)
            have z2 : (340282366920938463463374607431768211456 ≤ r2 + m2) = False := eq_false (by omega)
            have z3 : (glim k' < r2 + m2) = False := eq_false (by omega)
            have bf : (⟨k', n', r2, m2⟩ : Cu).buf = swords (gjump (snew k' n') r2) m2 := rfl
            by_cases c5 : r2 = glim k'
            · have c5' : (cmpN r2 (glim k') = 0) = True := eq_true (by rw [cmpN_eq0]; exact c5)
              simp (maxSteps := 10000000) only [go_sem, kn1, kn2, kn3, kn4, kn5, kn6, kn7, kn8, kn9, kz1, kz2, kz3, kz4, kz5, kz6, kz7, kz8, kz9, kz0, reduceCtorEq, String.reduceEq, kn0, kq1, kq2, kq3, kq4, Int.toNat_natCast, h1, bf, swords_len, tm, em, e1, z1, z2, z3, cmpN_gt, c5']
              repeat' (first | with_reducible refine And.intro ?_ ?_ | with_reducible intro _)
              all_goals first | omega | exact fin _ ds1 _ rfl rfl h1 (.refl _)
            · have c5' : (cmpN r2 (glim k') = 0) = False := eq_false (by rw [cmpN_eq0]; exact c5)
              have es : ssome k' r2 (m2 : Int) = 0 := by unfold ssome; rw [if_pos hk4, if_neg (by omega), if_neg (by omega)]
              have z5 : (r2 < glim k') = True := eq_true (by omega)
              simp (maxSteps := 10000000) only [go_sem, kn1, kn2, kn3, kn4, kn5, kn6, kn7, kn8, kn9, kz1, kz2, kz3, kz4, kz5, kz6, kz7, kz8, kz9, kz0, reduceCtorEq, String.reduceEq, kn0, kq1, kq2, kq3, kq4, Int.toNat_natCast, h1, bf, swords_len, tm, em, e1, z1, z2, z3, cmpN_gt, c5', es, z5, hk4, Int.toNat_natCast]
              repeat' (first | with_reducible refine And.intro ?_ ?_ | with_reducible intro _)
              all_goals first | omega | exact fin _ ds1 _ rfl rfl h1 (.refl _)
          · have c2' := eq_false c2
            simp (maxSteps := 10000000) only [go_sem, kn1, kn2, kn3, kn4, kn5, kn6, kn7, kn8, kn9, kz1, kz2, kz3, kz4, kz5, kz6, kz7, kz8, kz9, kz0, reduceCtorEq, String.reduceEq, kn0, kq1, kq2, kq3, kq4, Int.toNat_natCast, c', eAc_get, hA, d0', hds, c2']
            obtain ⟨x2, w2, -, ok2, -⟩ := cuOf_inv hds
            have q0 : r + m ≤ glim k' := ok2.2.2.2
            have q8 : m ≤ 8 := ok2.2.2.1
            have e1 : (r + m) % 340282366920938463463374607431768211456 = r + m := by omega
            have tm := tW_lit (l := m) (by omega)
            have em : ((m : Int) % 18446744073709551616).toNat = m := by omega
            have z1 : (8 < (m : Int)) = False := eq_false (by omega)
            have z2 : (340282366920938463463374607431768211456 ≤ r + m) = False := eq_false (by omega)
            have z3 : (glim k' < r + m) = False := eq_false (by omega)
            have bf : (⟨k', n', r, m⟩ : Cu).buf = swords (gjump (snew k' n') r) m := rfl
            by_cases c5 : r = glim k'
            · have c5' : (cmpN r (glim k') = 0) = True := eq_true (by rw [cmpN_eq0]; exact c5)
              simp (maxSteps := 10000000) only [go_sem, kn1, kn2, kn3, kn4, kn5, kn6, kn7, kn8, kn9, kz1, kz2, kz3, kz4, kz5, kz6, kz7, kz8, kz9, kz0, reduceCtorEq, String.reduceEq, kn0, kq1, kq2, kq3, kq4, Int.toNat_natCast, hds, bf, swords_len, tm, em, e1, z1, z2, z3, cmpN_gt, c5']
              repeat' (first | with_reducible refine And.intro ?_ ?_ | with_reducible intro _)
              all_goals first | omega | exact fin _ ds _ rfl rfl hds (.refl _)
            · have c5' : (cmpN r (glim k') = 0) = False := eq_false (by rw [cmpN_eq0]; exact c5)
              have es : ssome k' r (m : Int) = 0 := by unfold ssome; rw [if_pos hk4, if_neg (by omega), if_neg (by omega)]
              have z5 : (r < glim k') = True := eq_true (by omega)
              simp (maxSteps := 10000000) only [go_sem, kn1, kn2, kn3, kn4, kn5, kn6, kn7, kn8, kn9, kz1, kz2, kz3, kz4, kz5, kz6, kz7, kz8, kz9, kz0, reduceCtorEq, String.reduceEq, kn0, kq1, kq2, kq3, kq4, Int.toNat_natCast, hds, bf, swords_len, tm, em, e1, z1, z2, z3, cmpN_gt, c5', es, z5, hk4, Int.toNat_natCast]
              repeat' (first | with_reducible refine And.intro ?_ ?_ | with_reducible intro _)
              all_goals first | omega | exact fin _ ds _ rfl rfl hds (.refl _)
        · have d0' := eq_false d0
          by_cases d1 : A.d = 1
          · have d1' := eq_true d1
            by_cases c2 : r + A.n ≤ glim k'
            · have c2' := eq_true c2
              simp (maxSteps := 10000000) only [go_sem, kn1, kn2, kn3, kn4, kn5, kn6, kn7, kn8, kn9, kz1, kz2, kz3, kz4, kz5, kz6, kz7, kz8, kz9, kz0, reduceCtorEq, String.reduceEq, kn0, kq1, kq2, kq3, kq4, Int.toNat_natCast, c', eAc_get, hA, d0', d1', hds, c2']
              refine ⟨by omega, fun ds1 h1 => ?_⟩
              obtain ⟨r2, m2, h1⟩ : ∃ r2 m2, cuOf id ds1 = some ⟨k', n', r2, m2⟩ := ⟨_, _, h1⟩
              obtain ⟨x2, w2, -, ok2, -⟩ := cuOf_inv h1
              have q0 : r2 + m2 ≤ glim k' := ok2.2.2.2
              have q8 : m2 ≤ 8 := ok2.2.2.1
              have e1 : (r2 + m2) % 340282366920938463463374607431768211456 = r2 + m2 := by omega
              have tm := tW_lit (l := m2) (by omega)
              have em : ((m2 : Int) % 18446744073709551616).toNat = m2 := by omega
              have z1 : (8 < (m2 : Int)) = False := eq_false (by omega)
              have z2 : (340282366920938463463374607431768211456 ≤ r2 + m2) = False := eq_false (by omega)
              have z3 : (glim k' < r2 + m2) = False := eq_false (by omega)
              have bf : (⟨k', n', r2, m2⟩ : Cu).buf = swords (gjump (snew k' n') r2) m2 := rfl
              by_cases c5 : r2 = glim k'
              · have c5' : (cmpN r2 (glim k') = 0) = True := eq_true (by rw [cmpN_eq0]; exact c5)
                simp (maxSteps := 10000000) only [go_sem, kn1, kn2, kn3, kn4, kn5, kn6, kn7, kn8, kn9, kz1, kz2, kz3, kz4, kz5, kz6, kz7, kz8, kz9, kz0, reduceCtorEq, String.reduceEq, kn0, kq1, kq2, kq3, kq4, Int.toNat_natCast, h1, bf, swords_len, tm, em, e1, z1, z2, z3, cmpN_gt, c5']
                repeat' (first | with_reducible refine And.intro ?_ ?_ | with_reducible intro _)
                all_goals first | omega | exact fin _ ds1 _ rfl rfl h1 (.refl _)
              · have c5' : (cmpN r2 (glim k') = 0) = False := eq_false (by rw [cmpN_eq0]; exact c5)
                have es : ssome k' r2 (m2 : Int) = 0 := by unfold ssome; rw [if_pos hk4, if_neg (by omega), if_neg (by omega)]
                have z5 : (r2 < glim k') = True := eq_true (by omega)
                simp (maxSteps := 10000000) only [go_sem, kn1, kn2, kn3, kn4, kn5, kn6, kn7, kn8, kn9, kz1, kz2, kz3, kz4, kz5, kz6, kz7, kz8, kz9, kz0, reduceCtorEq, String.reduceEq, kn0, kq1, kq2, kq3, kq4, Int.toNat_natCast, h1, bf, swords_len, tm, em, e1, z1, z2, z3, cmpN_gt, c5', es, z5, hk4, Int.toNat_natCast]
                repeat' (first | with_reducible refine And.intro ?_ ?_ | with_reducible intro _)
                all_goals first | omega | exact fin _ ds1 _ rfl rfl h1 (.refl _)
            · have c2' := eq_false c2
              simp (maxSteps := 10000000) only [go_sem, kn1, kn2, kn3, kn4, kn5, kn6, kn7, kn8, kn9, kz1, kz2, kz3, kz4, kz5, kz6, kz7, kz8, kz9, kz0, reduceCtorEq, String.reduceEq, kn0, kq1, kq2, kq3, kq4, Int.toNat_natCast, c', eAc_get, hA, d0', d1', hds, c2']
              obtain ⟨x2, w2, -, ok2, -⟩ := cuOf_inv hds
              have q0 : r + m ≤ glim k' := ok2.2.2.2
              have q8 : m ≤ 8 := ok2.2.2.1
              have e1 : (r + m) % 340282366920938463463374607431768211456 = r + m := by omega
              have tm := tW_lit (l := m) (by omega)
              have em : ((m : Int) % 18446744073709551616).toNat = m := by omega
              have z1 : (8 < (m : Int)) = False := eq_false (by omega)
              have z2 : (340282366920938463463374607431768211456 ≤ r + m) = False := eq_false (by omega)
              have z3 : (glim k' < r + m) = False := eq_false (by omega)
              have bf : (⟨k', n', r, m⟩ : Cu).buf = swords (gjump (snew k' n') r) m := rfl
              by_cases c5 : r = glim k'
              · have c5' : (cmpN r (glim k') = 0) = True := eq_true (by rw [cmpN_eq0]; exact c5)
                simp (maxSteps := 10000000) only [go_sem, kn1, kn2, kn3, kn4, kn5, kn6, kn7, kn8, kn9, kz1, kz2, kz3, kz4, kz5, kz6, kz7, kz8, kz9, kz0, reduceCtorEq, String.reduceEq, kn0, kq1, kq2, kq3, kq4, Int.toNat_natCast, hds, bf, swords_len, tm, em, e1, z1, z2, z3, cmpN_gt, c5']
                repeat' (first | with_reducible refine And.intro ?_ ?_ | with_reducible intro _)
                all_goals first | omega | exact fin _ ds _ rfl rfl hds (.refl _)
              · have c5' : (cmpN r (glim k') = 0) = False := eq_false (by rw [cmpN_eq0]; exact c5)
                have es : ssome k' r (m : Int) = 0 := by unfold ssome; rw [if_pos hk4, if_neg (by omega), if_neg (by omega)]
                have z5 : (r < glim k') = True := eq_true (by omega)
                simp (maxSteps := 10000000) only [go_sem, kn1, kn2, kn3, kn4, kn5, kn6, kn7, kn8, kn9, kz1, kz2, kz3, kz4, kz5, kz6, kz7, kz8, kz9, kz0, reduceCtorEq, String.reduceEq, kn0, kq1, kq2, kq3, kq4, Int.toNat_natCast, hds, bf, swords_len, tm, em, e1, z1, z2, z3, cmpN_gt, c5', es, z5, hk4, Int.toNat_natCast]
                repeat' (first | with_reducible refine And.intro ?_ ?_ | with_reducible intro _)
                all_goals first | omega | exact fin _ ds _ rfl rfl hds (.refl _)
          · have d1' := eq_false d1
            simp (maxSteps := 10000000) only [go_sem, kn1, kn2, kn3, kn4, kn5, kn6, kn7, kn8, kn9, kz1, kz2, kz3, kz4, kz5, kz6, kz7, kz8, kz9, kz0, reduceCtorEq, String.reduceEq, kn0, kq1, kq2, kq3, kq4, Int.toNat_natCast, c', eAc_get, hA, d0', d1', hds]
            obtain ⟨x2, w2, -, ok2, -⟩ := cuOf_inv hds
            have q0 : r + m ≤ glim k' := ok2.2.2.2
            have q8 : m ≤ 8 := ok2.2.2.1
            have e1 : (r + m) % 340282366920938463463374607431768211456 = r + m := by omega
            have tm := tW_lit (l := m) (by omega)
            have em : ((m : Int) % 18446744073709551616).toNat = m := by omega
            have z1 : (8 < (m : Int)) = False := eq_false (by omega)
            have z2 : (340282366920938463463374607431768211456 ≤ r + m) = False := eq_false (by omega)
            have z3 : (glim k' < r + m) = False := eq_false (by omega)
            have bf : (⟨k', n', r, m⟩ : Cu).buf = swords (gjump (snew k' n') r) m := rfl
            by_cases c5 : r = glim k'
            · have c5' : (cmpN r (glim k') = 0) = True := eq_true (by rw [cmpN_eq0]; exact c5)
              simp (maxSteps := 10000000) only [go_sem, kn1, kn2, kn3, kn4, kn5, kn6, kn7, kn8, kn9, kz1, kz2, kz3, kz4, kz5, kz6, kz7, kz8, kz9, kz0, reduceCtorEq, String.reduceEq, kn0, kq1, kq2, kq3, kq4, Int.toNat_natCast, hds, bf, swords_len, tm, em, e1, z1, z2, z3, cmpN_gt, c5']
              repeat' (first | with_reducible refine And.intro ?_ ?_ | with_reducible intro _)
              all_goals first | omega | exact fin _ ds _ rfl rfl hds (.refl _)
            · have c5' : (cmpN r (glim k') = 0) = False := eq_false (by rw [cmpN_eq0]; exact c5)
              have es : ssome k' r (m : Int) = 0 := by unfold ssome; rw [if_pos hk4, if_neg (by omega), if_neg (by omega)]
              have z5 : (r < glim k') = True := eq_true (by omega)
              simp (maxSteps := 10000000) only [go_sem, kn1, kn2, kn3, kn4, kn5, kn6, kn7, kn8, kn9, kz1, kz2, kz3, kz4, kz5, kz6, kz7, kz8, kz9, kz0, reduceCtorEq, String.reduceEq, kn0, kq1, kq2, kq3, kq4, Int.toNat_natCast, hds, bf, swords_len, tm, em, e1, z1, z2, z3, cmpN_gt, c5', es, z5, hk4, Int.toNat_natCast]
              repeat' (first | with_reducible refine And.intro ?_ ?_ | with_reducible intro _)
              all_goals first | omega | exact fin _ ds _ rfl rfl hds (.refl _)
      · have c' : ((i : Int) < (l.length : Int)) = False := eq_false (by omega)
        simp (maxSteps := 10000000) only [go_sem, kn1, kn2, kn3, kn4, kn5, kn6, kn7, kn8, kn9, kz1, kz2, kz3, kz4, kz5, kz6, kz7, kz8, kz9, kz0, reduceCtorEq, String.reduceEq, kn0, kq1, kq2, kq3, kq4, Int.toNat_natCast, c']
        exact .put hid (.refl _)
  · have e0 : nerr k p = 10 := by rw [nerr_4 hk4, if_neg c1]
    simp (maxSteps := 10000000) only [go_sem, Tryz.f5, kn1, kn2, kn3, kn4, kn5, kn6, kn7, kn8, kn9, kz1, kz2, kz3, kz4, kz5, kz6, kz7, kz8, kz9, kz0, reduceCtorEq, String.reduceEq, kn0, kq1, kq2, kq3, kq4, Int.toNat_natCast, c0', hk, e0]
    omega
end Go.Proofs.YteomkgcepiecjaaGreat.I
