/- Chapter 16: CursorWords, as a contract. -/
import Derived.Test.YteomkgcepiecjaaGreatZLaw16
import Derived.Test.YteomkgcepiecjaaGreatZAgg
namespace Go.Proofs.YteomkgcepiecjaaGreat.I
open Go
open Nat renaming reduceEqDiff → kn1, reduceBEq → kn2, reducePow → kn3, reduceMod → kn4, reduceAdd → kn5, reduceSub → kn6, reduceMul → kn7, reduceDiv → kn8, reduceLeDiff → kn9, reduceLT → kn0, zero_lt_one → kq1, zero_add → kq2, zero_le → kq3, le_refl → kq4
open Int renaming reduceToNat → kz1, reduceAdd → kz2, reduceSub → kz3, reduceMul → kz4, reduceDiv → kz5, reduceMod → kz6, reduceLE → kz7, reduceLT → kz8, reduceNeg → kz9, reduceEq → kz0
set_option maxRecDepth 100000
set_option linter.unusedSimpArgs false
set_option linter.unusedVariables false
structure Act where
  d : Int
  n : Nat
def vAc (x : Act) : V := .agg [.z x.d, .n .u64 (x.n / 18446744073709551616), .n .u64 (x.n % 18446744073709551616)]
@[go_sem] theorem vAc_eq (x : Act) : vAc x = .agg [.z x.d, .n .u64 (x.n / 18446744073709551616), .n .u64 (x.n % 18446744073709551616)] := rfl
theorem vAc_inj (x y : Act) (h : vAc x = vAc y) : x = y := by
  obtain ⟨d, n⟩ := x
  obtain ⟨d', n'⟩ := y
  simp only [vAc, V.agg.injEq, List.cons.injEq, V.n.injEq, V.z.injEq, true_and, and_true] at h
  obtain ⟨rfl, h1, h2⟩ := h
  obtain rfl : n = n' := by omega
  rfl
noncomputable def tAc : Ty Act := Ty.by vAc vAc_inj
theorem tAc_enc : tAc.enc = vAc := rfl
def zAc : Act := ⟨0, 0⟩
theorem eAc_get (l : List Act) (i : Nat) : (els vAc l).getD i (.agg [.z 0, .n .u64 0, .n .u64 0]) = vAc (l.getD i zAc) := els_getD vAc l i zAc
theorem wf_Ac {l : List Act} {vs : List V} (h : wfs (.sl (els vAc l) :: vs)) : l.length ≤ longest ∧ ∀ x ∈ l, x.n < 340282366920938463463374607431768211456 ∧ i64ok x.d := by
  obtain ⟨⟨h1, h2⟩, _⟩ := h
  rw [els_len] at h1
  refine ⟨h1, fun x hx => ?_⟩
  have := (wfs_iff _).1 h2 (vAc x) (List.mem_map.2 ⟨x, hx, rfl⟩)
  obtain ⟨g1, g2, g3, -⟩ := this
  have g2' : x.n / 18446744073709551616 < 18446744073709551616 := g2
  exact ⟨by omega, g1⟩
theorem ssome_1 {k : Int} {p : Nat} (hk : 1 ≤ k ∧ k ≤ 4) : ssome k p 1 = if glim k ≤ p then 10 else 0 := by
  unfold ssome; rw [if_pos hk]; simp
theorem swords_1 {k : Int} {n p : Nat} : swords (gjump (snew k n) p) 1 = [wAt k n p] := rfl
theorem nerr_4 {k : Int} {p : Nat} (hk : 1 ≤ k ∧ k ≤ 4) : nerr k p = if p ≤ glim k then 0 else 10 := by unfold nerr; rw [if_pos hk]
@[go_sem] noncomputable def c_law16_CursorWords : Cn := fn4 (tN .u8) (tN .u64) tW (tL tAc) (fun _ _ _ _ => True) fun _ _ _ _ => .b true
noncomputable def cx_law16_CursorWords : Cx := { T := T, E := E, cs := [(14, c_law16_awake), (16, c_cursor_New), (17, c_wide_Of), (23, c_cursor_Cursor_Next), (25, c_cursor_Cursor_Skip), (27, c_cursor_Cursor_Place), (33, c_seed_Some), (34, c_cursor_Cursor_Copy), (35, c_wide_Add), (36, c_wide_Cmp), (37, c_gen_Limit)], sch := [(23, false, .take 0 (.alt 1 (.alt 2 (.take 3 (.take 4 (.take 5 (.alt 6 (.alt 7 (.take 8 (.done)) .no) .no)))) (.alt 6 (.alt 2 (.take 3 (.take 4 (.take 5 (.alt 7 (.take 8 (.done)) .no)))) .no) (.no))) (.alt 6 (.alt 1 (.alt 2 (.take 3 (.take 4 (.take 5 (.alt 7 (.take 8 (.done)) .no)))) .no) .no) (.no)))), (24, false, .take 0 (.take 1 (.take 2 (.take 3 (.take 5 (.alt 4 (.take 6 (.take 7 (.take 8 (.take 9 (.take 10 (.take 11 (.take 12 (.take 14 (.alt 13 (.take 15 (.take 16 (.take 17 (.done)))) .no))))))))) .no)))))), (29, false, .take 0 (.take 1 (.take 2 (.take 3 (.alt 4 (.alt 5 (.take 6 (.take 7 (.done))) .no) .no))))), (30, false, .take 0 (.take 1 (.take 2 (.take 3 (.take 5 (.alt 4 (.take 6 (.take 7 (.done))) .no)))))), (32, false, .take 0 (.take 1 (.take 2 (.take 3 (.take 5 (.alt 4 (.take 6 (.take 7 (.done))) .no))))))], ob := [], qs := [14, 16, 17, 27, 33, 34, 35, 36, 37] }
@[go_sem] theorem cx_law16_CursorWords_e : cx_law16_CursorWords.gs = none ∧ cx_law16_CursorWords.md = 0 ∧ cx_law16_CursorWords.T = T ∧ cx_law16_CursorWords.E = E ∧ cx_law16_CursorWords.cs = [(14, c_law16_awake), (16, c_cursor_New), (17, c_wide_Of), (23, c_cursor_Cursor_Next), (25, c_cursor_Cursor_Skip), (27, c_cursor_Cursor_Place), (33, c_seed_Some), (34, c_cursor_Cursor_Copy), (35, c_wide_Add), (36, c_wide_Cmp), (37, c_gen_Limit)] ∧ cx_law16_CursorWords.sch = [(23, false, .take 0 (.alt 1 (.alt 2 (.take 3 (.take 4 (.take 5 (.alt 6 (.alt 7 (.take 8 (.done)) .no) .no)))) (.alt 6 (.alt 2 (.take 3 (.take 4 (.take 5 (.alt 7 (.take 8 (.done)) .no)))) .no) (.no))) (.alt 6 (.alt 1 (.alt 2 (.take 3 (.take 4 (.take 5 (.alt 7 (.take 8 (.done)) .no)))) .no) .no) (.no)))), (24, false, .take 0 (.take 1 (.take 2 (.take 3 (.take 5 (.alt 4 (.take 6 (.take 7 (.take 8 (.take 9 (.take 10 (.take 11 (.take 12 (.take 14 (.alt 13 (.take 15 (.take 16 (.take 17 (.done)))) .no))))))))) .no)))))), (29, false, .take 0 (.take 1 (.take 2 (.take 3 (.alt 4 (.alt 5 (.take 6 (.take 7 (.done))) .no) .no))))), (30, false, .take 0 (.take 1 (.take 2 (.take 3 (.take 5 (.alt 4 (.take 6 (.take 7 (.done))) .no)))))), (32, false, .take 0 (.take 1 (.take 2 (.take 3 (.take 5 (.alt 4 (.take 6 (.take 7 (.done))) .no))))))] ∧ ∀ d, (cx_law16_CursorWords.ob).contains d = false := ⟨rfl, rfl, rfl, rfl, rfl, rfl, fun _ => rfl⟩
theorem cok_law16_CursorWords : COk Tryz.prog (cx_law16_CursorWords) := cok_of rfl (.cons ok_law16_awake (.cons ok_cursor_New (.cons ok_wide_Of (.cons ok_cursor_Cursor_Next (.cons ok_cursor_Cursor_Skip (.cons ok_cursor_Cursor_Place (.cons ok_seed_Some (.cons ok_cursor_Cursor_Copy (.cons ok_wide_Add (.cons ok_wide_Cmp (.cons ok_gen_Limit (.nil)))))))))))) (.cons (fun _ => fn0_quiet) (.cons (fun _ => nw3_quiet) (.cons (fun _ => fn1_quiet) (.cons (fun h => absurd h (by decide)) (.cons (fun h => absurd h (by decide)) (.cons (fun _ => om0_quiet) (.cons (fun _ => fn4i_quiet) (.cons (fun _ => cp0_quiet) (.cons (fun _ => fn2_quiet) (.cons (fun _ => fn2_quiet) (.cons (fun _ => fn1_quiet) (.nil)))))))))))) (.nil)
set_option maxHeartbeats 4000000 in
theorem ok_law16_CursorWords : Ok Tryz.prog 4 c_law16_CursorWords := by
  refine ok_fn4 cok_law16_CursorWords mixed Tryz.func4 rfl (by kernel_rfl) (by kernel_rfl) rfl ?_
  intro q n p l om hw _
  have hq : q < 256 := hw.1
  have hn : n < 18446744073709551616 := hw.2.1
  have hp := wf_w hw.2.2
  have hl : ∀ x ∈ l, _ := (wf_Ac (l := l) (vs := []) ⟨hw.2.2.2.1, trivial⟩).2
  rw [show (tL tAc).enc l = .sl (els vAc l) from rfl]
  obtain ⟨k, hk⟩ : ∃ k : Int, ((q % 4 : Nat) : Int) + 1 = k := ⟨_, rfl⟩
  have hk4 : 1 ≤ k ∧ k ≤ 4 := by omega
  have hgl := glim_lt k
  by_cases c0 : 60 < l.length
  · have c0' : ((60 : Int) < (l.length : Int)) = True := eq_true (by omega)
    simp (maxSteps := 10000000) only [go_sem, Tryz.f4, kn1, kn2, kn3, kn4, kn5, kn6, kn7, kn8, kn9, kz1, kz2, kz3, kz4, kz5, kz6, kz7, kz8, kz9, kz0, reduceCtorEq, String.reduceEq, kn0, kq1, kq2, kq3, kq4, Int.toNat_natCast, c0']
  have c0' : ((60 : Int) < (l.length : Int)) = False := eq_false (by omega)
  by_cases c1 : p ≤ glim k
  · have e0 : nerr k p = 0 := by rw [nerr_4 hk4, if_pos c1]
    simp (maxSteps := 10000000) only [go_sem, Tryz.f4, kn1, kn2, kn3, kn4, kn5, kn6, kn7, kn8, kn9, kz1, kz2, kz3, kz4, kz5, kz6, kz7, kz8, kz9, kz0, reduceCtorEq, String.reduceEq, kn0, kq1, kq2, kq3, kq4, Int.toNat_natCast, c0', hk, e0]
    refine ⟨by omega, by omega, fun id hid cs hcs => ?_⟩
    simp (maxSteps := 10000000) only [go_sem, kn1, kn2, kn3, kn4, kn5, kn6, kn7, kn8, kn9, kz1, kz2, kz3, kz4, kz5, kz6, kz7, kz8, kz9, kz0, reduceCtorEq, String.reduceEq, kn0, kq1, kq2, kq3, kq4, Int.toNat_natCast]
    refine ⟨Nat × Cu × List V, fun s => ⟨[.u, .n .u64 n, .u, .u, .u, .u, .u, .u, .b false, .z k, .obj id 0, .u, .u, .u, .u, .u, .u, .u, .u, .u, .u, .u, .u, .u, .u, .u, .u, .u, .u, .u, .u, .u, .u, .u, .u, .u, .u, .u, .u, .u, .u, .u, .u, .u, .u, .u, .u, .u, .u, .u, .u, .u, .u, .u, .sl (els vAc l), .z l.length, .z s.1, .u, .u, .u, .u, .u, .u, .u, .u, .u, .u, .u, .u, .u, .u, .u, .u, .u, .u, .u, .u, .u, .u, .u, .u, .u, .u, .u, .u, .u, .u, .u, .u, .u, .u, .u, .u, .u, .u, .u, .u, .u, .u, .u, .u, .u, .u, .u, .u, .u, .u, .u, .u, .u, .u, .u, .u, .u, .u, .u, .u, .u, .u, .u, .u, .u, .u, .u, .u, .u, .u, .u, .u, .u, .u, .u, .u, .u, .u, .u, .u, .u, .u, .u, .u, .u, .u, .u, .u, .u, .u, .u, .u, .u, .u, .u, .u, .u, .u, .u, .u, .u, .u, .u, .u, .u, .u, .u, .u, .u, .u, .u, .u, .u, .u, .u, .u, .u, .u, .u, .u, .u, .u, .u, .u, .u, .u, .u, .u], [], om.put id s.2.2⟩,
      fun s => s.1 ≤ l.length ∧ cuOf id s.2.2 = some s.2.1 ∧ s.2.1.k = k ∧ s.2.1.n = n, fun s => l.length - s.1, ⟨(0, ⟨k, n, p, 0⟩, cs), ⟨Nat.zero_le _, hcs, rfl, rfl⟩, ?_⟩, ?_⟩
    · simp only [go_sem, kn1, kn2, kn3, kn4, kn5, kn6, kn7, kn8, kn9, kz1, kz2, kz3, kz4, kz5, kz6, kz7, kz8, kz9, kz0, reduceCtorEq, String.reduceEq, kn0, kq1, kq2, kq3, kq4, Int.toNat_natCast]
    · rintro ⟨i, ⟨k', n', r, m⟩, ds⟩ ⟨hi, hds, ek, en⟩
      obtain rfl : k' = k := ek
      obtain rfl : n' = n := en
      simp only at hi hds
      obtain ⟨x, v, -, hok, -⟩ := cuOf_inv hds
      have hpm : r + m ≤ glim k' := hok.2.2.2
      by_cases c : i < l.length
      · have c' : ((i : Int) < (l.length : Int)) = True := eq_true (by omega)
        obtain ⟨A, hA⟩ : ∃ A, l.getD i zAc = A := ⟨_, rfl⟩
        have wA : A.n < 340282366920938463463374607431768211456 := by
          rw [← hA, List.getD_eq_getElem?_getD, List.getElem?_eq_getElem c]; exact (hl _ (List.getElem_mem c)).1
        have fin : ∀ (c : Cu) (ds' : List V) (om' : Om), c.k = k' → c.n = n' → cuOf id ds' = some c → OmKept (om.put id ds') om' → ∃ y : Nat × Cu × List V, (y.1 ≤ l.length ∧ cuOf id y.2.2 = some y.2.1 ∧ y.2.1.k = k' ∧ y.2.1.n = n') ∧ ((i : Int) + 1 = (y.1 : Nat) ∧ OmKept (om.put id y.2.2) om') ∧ l.length - y.1 < l.length - i := fun c ds' om' g1 g2 g3 g4 =>
          ⟨(i + 1, c, ds'), ⟨by show i + 1 ≤ _; omega, g3, g1, g2⟩, ⟨by show _ = ((i + 1 : Nat) : Int); omega, g4⟩, by show l.length - (i + 1) < _; omega⟩
        by_cases d0 : A.d = 0
        · have d0' := eq_true d0
          by_cases c2 : r < glim k'
          · have c2' := eq_true c2
            have es : ssome k' r 1 = 0 := by rw [ssome_1 hk4, if_neg (by omega)]
            have t1 := tW_lit (l := 1) (by omega)
            have ea : (r + 1) % 340282366920938463463374607431768211456 = r + 1 := by omega
            simp (maxSteps := 10000000) only [go_sem, kn1, kn2, kn3, kn4, kn5, kn6, kn7, kn8, kn9, kz1, kz2, kz3, kz4, kz5, kz6, kz7, kz8, kz9, kz0, reduceCtorEq, String.reduceEq, kn0, kq1, kq2, kq3, kq4, Int.toNat_natCast, c', eAc_get, hA, d0', hds, es, swords_1, ea]
            refine ⟨by omega, fun _ _ j hj es hes => ?_⟩
            have nj : ¬ j = id ∧ ¬ id = j ∧ om j = none := by simpa only [Om.put, new_iff] using hj
            have n1 := eq_false nj.1
            have n2 := eq_false nj.2.1
            simp (maxSteps := 10000000) only [go_sem, kn1, kn2, kn3, kn4, kn5, kn6, kn7, kn8, kn9, kz1, kz2, kz3, kz4, kz5, kz6, kz7, kz8, kz9, kz0, reduceCtorEq, String.reduceEq, kn0, kq1, kq2, kq3, kq4, Int.toNat_natCast, n1, n2, hds, hes, c2']
            refine fun ds1 h1 => ?_
            simp (maxSteps := 10000000) only [go_sem, kn1, kn2, kn3, kn4, kn5, kn6, kn7, kn8, kn9, kz1, kz2, kz3, kz4, kz5, kz6, kz7, kz8, kz9, kz0, reduceCtorEq, String.reduceEq, kn0, kq1, kq2, kq3, kq4, Int.toNat_natCast, n1, n2, h1, hes, c2']
            refine fun _ es1 h2 => ?_
            simp (maxSteps := 10000000) only [go_sem, kn1, kn2, kn3, kn4, kn5, kn6, kn7, kn8, kn9, kz1, kz2, kz3, kz4, kz5, kz6, kz7, kz8, kz9, kz0, reduceCtorEq, String.reduceEq, kn0, kq1, kq2, kq3, kq4, Int.toNat_natCast, n1, n2, h1, h2, c2', t1, ea, Cu.next, bne_self_eq_false]
            intros
            refine ⟨by omega, fin _ ds1 _ rfl rfl h1 fun x cs e => ?_⟩
            simp only [Om.put] at e ⊢
            by_cases e1 : x = id <;> by_cases e2 : x = j <;> simp_all
          · have c2' := eq_false c2
            have t1 := tW_lit (l := 1) (by omega)
            have es : ssome k' r 1 = 10 := by rw [ssome_1 hk4, if_pos (by omega)]
            simp (maxSteps := 10000000) only [go_sem, kn1, kn2, kn3, kn4, kn5, kn6, kn7, kn8, kn9, kz1, kz2, kz3, kz4, kz5, kz6, kz7, kz8, kz9, kz0, reduceCtorEq, String.reduceEq, kn0, kq1, kq2, kq3, kq4, Int.toNat_natCast, c', eAc_get, hA, d0', hds, es, swords_1]
            refine ⟨by omega, fun _ j hj es hes => ?_⟩
            have nj : ¬ j = id ∧ ¬ id = j ∧ om j = none := by simpa only [Om.put, new_iff] using hj
            have n1 := eq_false nj.1
            have n2 := eq_false nj.2.1
            simp (maxSteps := 10000000) only [go_sem, kn1, kn2, kn3, kn4, kn5, kn6, kn7, kn8, kn9, kz1, kz2, kz3, kz4, kz5, kz6, kz7, kz8, kz9, kz0, reduceCtorEq, String.reduceEq, kn0, kq1, kq2, kq3, kq4, Int.toNat_natCast, n1, n2, hds, hes, c2', t1, bne_self_eq_false]
            intros
            exact ⟨by omega, fin _ ds _ rfl rfl hds (.put hj (.refl _))⟩
        · have d0' := eq_false d0
          by_cases d1 : A.d = 1
          · have d1' := eq_true d1
            by_cases c2 : r + A.n ≤ glim k'
            · have c2' := eq_true c2
              have ea : (r + A.n) % 340282366920938463463374607431768211456 = r + A.n := by omega
              have q1 : (340282366920938463463374607431768211456 ≤ r + A.n) = False := eq_false (by omega)
              have q2 : (glim k' < r + A.n) = False := eq_false (by omega)
              simp (maxSteps := 10000000) only [go_sem, kn1, kn2, kn3, kn4, kn5, kn6, kn7, kn8, kn9, kz1, kz2, kz3, kz4, kz5, kz6, kz7, kz8, kz9, kz0, reduceCtorEq, String.reduceEq, kn0, kq1, kq2, kq3, kq4, Int.toNat_natCast, c', eAc_get, hA, d0', d1', hds, c2', ea, q1, q2, cmpN_gt]
              refine ⟨by omega, fun _ _ ds1 h1 => ?_⟩
              simp (maxSteps := 10000000) only [go_sem, kn1, kn2, kn3, kn4, kn5, kn6, kn7, kn8, kn9, kz1, kz2, kz3, kz4, kz5, kz6, kz7, kz8, kz9, kz0, reduceCtorEq, String.reduceEq, kn0, kq1, kq2, kq3, kq4, Int.toNat_natCast, h1, q1, q2, cmpN_gt, Cu.skip, bne_self_eq_false]
              intros
              exact ⟨by omega, fin _ ds1 _ rfl rfl h1 (.refl _)⟩
            · have c2' := eq_false c2
              simp (maxSteps := 10000000) only [go_sem, kn1, kn2, kn3, kn4, kn5, kn6, kn7, kn8, kn9, kz1, kz2, kz3, kz4, kz5, kz6, kz7, kz8, kz9, kz0, reduceCtorEq, String.reduceEq, kn0, kq1, kq2, kq3, kq4, Int.toNat_natCast, c', eAc_get, hA, d0', d1', hds, c2', cmpN_gt, bne_self_eq_false]
              exact ⟨by omega, fun _ _ => ⟨fun _ _ => ⟨by omega, fin _ ds _ rfl rfl hds (.refl _)⟩, fun g1 _ _ => ⟨fun g2 _ => ⟨by omega, fin _ ds _ rfl rfl hds (.refl _)⟩, fun g2 => by omega⟩⟩⟩
          · have d1' := eq_false d1
            simp (maxSteps := 10000000) only [go_sem, kn1, kn2, kn3, kn4, kn5, kn6, kn7, kn8, kn9, kz1, kz2, kz3, kz4, kz5, kz6, kz7, kz8, kz9, kz0, reduceCtorEq, String.reduceEq, kn0, kq1, kq2, kq3, kq4, Int.toNat_natCast, c', eAc_get, hA, d0', d1', hds]
            exact ⟨by omega, fun _ => ⟨by omega, fin _ ds _ rfl rfl hds (.refl _)⟩⟩
      · have c' : ((i : Int) < (l.length : Int)) = False := eq_false (by omega)
        simp (maxSteps := 10000000) only [go_sem, kn1, kn2, kn3, kn4, kn5, kn6, kn7, kn8, kn9, kz1, kz2, kz3, kz4, kz5, kz6, kz7, kz8, kz9, kz0, reduceCtorEq, String.reduceEq, kn0, kq1, kq2, kq3, kq4, Int.toNat_natCast, c']
        exact .put hid (.refl _)
  · have e0 : nerr k p = 10 := by rw [nerr_4 hk4, if_neg c1]
    simp (maxSteps := 10000000) only [go_sem, Tryz.f4, kn1, kn2, kn3, kn4, kn5, kn6, kn7, kn8, kn9, kz1, kz2, kz3, kz4, kz5, kz6, kz7, kz8, kz9, kz0, reduceCtorEq, String.reduceEq, kn0, kq1, kq2, kq3, kq4, Int.toNat_natCast, c0', hk, e0]
    omega
end Go.Proofs.YteomkgcepiecjaaGreat.I
