/- cursor: Skip, New, Copy. -/
import Derived.Test.YteomkgcepiecjaaGreatZCur2
namespace Go.Proofs.YteomkgcepiecjaaGreat.I
open Go
open Nat renaming reduceEqDiff → kn1, reduceBEq → kn2, reducePow → kn3, reduceMod → kn4, reduceAdd → kn5, reduceSub → kn6, reduceMul → kn7, reduceDiv → kn8, reduceLeDiff → kn9, reduceLT → kn0, zero_lt_one → kq1, zero_add → kq2, zero_le → kq3, le_refl → kq4
open Int renaming reduceToNat → kz1, reduceAdd → kz2, reduceSub → kz3, reduceMul → kz4, reduceDiv → kz5, reduceMod → kz6, reduceLE → kz7, reduceLT → kz8, reduceNeg → kz9, reduceEq → kz0
set_option maxRecDepth 10000
set_option linter.unusedSimpArgs false
set_option linter.unusedVariables false
def Cu.skip (c : Cu) (x : Nat) : Cu := ⟨c.k, c.n, c.p + x, c.m - x⟩
@[go_sem] noncomputable def c_cursor_Cursor_Skip : Cn := oc1 cuOf tW (fun _ _ => True) (fun c x => c.p + x ≤ glim c.k) (fun _ _ => .z 0) (fun _ _ => .z 10) Cu.skip
noncomputable def cx_cursor_Cursor_Skip : Cx := { T := T, E := E, cs := [(17, c_wide_Of), (35, c_wide_Add), (36, c_wide_Cmp), (76, c_gen_Jump), (82, c_cursor_Cursor_left), (87, c_wide_Sub)], sch := [(1, false, .take 0 (.take 1 (.alt 2 (.alt 3 (.take 4 (.done)) .no) .no))), (3, false, .take 0 (.take 1 (.take 2 (.take 3 (.take 4 (.take 5 (.alt 6 (.take 7 (.take 8 (.take 9 (.take 10 (.take 11 (.alt 12 (.done) .no)))))) .no))))))), (6, false, .take 0 (.take 1 (.take 2 (.take 3 (.take 4 (.take 5 (.take 6 (.take 7 (.take 8 (.take 9 (.alt 10 (.done) .no))))))))))), (10, false, .take 0 (.take 1 (.take 2 (.take 3 (.take 4 (.take 5 (.alt 6 (.take 7 (.take 8 (.take 9 (.take 10 (.take 11 (.alt 12 (.done) .no)))))) .no)))))))], ob := [], qs := [17, 35, 36, 76, 82, 87] }
@[go_sem] theorem cx_cursor_Cursor_Skip_e : cx_cursor_Cursor_Skip.gs = none ∧ cx_cursor_Cursor_Skip.md = 0 ∧ cx_cursor_Cursor_Skip.T = T ∧ cx_cursor_Cursor_Skip.E = E ∧ cx_cursor_Cursor_Skip.cs = [(17, c_wide_Of), (35, c_wide_Add), (36, c_wide_Cmp), (76, c_gen_Jump), (82, c_cursor_Cursor_left), (87, c_wide_Sub)] ∧ cx_cursor_Cursor_Skip.sch = [(1, false, .take 0 (.take 1 (.alt 2 (.alt 3 (.take 4 (.done)) .no) .no))), (3, false, .take 0 (.take 1 (.take 2 (.take 3 (.take 4 (.take 5 (.alt 6 (.take 7 (.take 8 (.take 9 (.take 10 (.take 11 (.alt 12 (.done) .no)))))) .no))))))), (6, false, .take 0 (.take 1 (.take 2 (.take 3 (.take 4 (.take 5 (.take 6 (.take 7 (.take 8 (.take 9 (.alt 10 (.done) .no))))))))))), (10, false, .take 0 (.take 1 (.take 2 (.take 3 (.take 4 (.take 5 (.alt 6 (.take 7 (.take 8 (.take 9 (.take 10 (.take 11 (.alt 12 (.done) .no)))))) .no)))))))] ∧ ∀ d, (cx_cursor_Cursor_Skip.ob).contains d = false := ⟨rfl, rfl, rfl, rfl, rfl, rfl, fun _ => rfl⟩
theorem cok_cursor_Cursor_Skip : COk Tryz.prog (cx_cursor_Cursor_Skip) := cok_of rfl (.cons ok_wide_Of (.cons ok_wide_Add (.cons ok_wide_Cmp (.cons ok_gen_Jump (.cons ok_cursor_Cursor_left (.cons ok_wide_Sub (.nil))))))) (.cons (fun _ => fn1_quiet) (.cons (fun _ => fn2_quiet) (.cons (fun _ => fn2_quiet) (.cons (fun _ => fn2i_quiet) (.cons (fun _ => om0_quiet) (.cons (fun _ => fn2_quiet) (.nil))))))) (.nil)
theorem ok_cursor_Cursor_Skip : Ok Tryz.prog 25 c_cursor_Cursor_Skip := by
  refine ok_oc1 cok_cursor_Cursor_Skip mixed Tryz.func25 rfl (by kernel_rfl) (by kernel_rfl) rfl ?_ ?_
  · intro c n id om cs h1 h2 hw _ h4
    have h2' := h2
    obtain ⟨x, v, rfl, hc, hb⟩ := cuOf_inv h2
    have hg := glim_lt c.k
    have hm := hc.2.2.1
    obtain ⟨s1, s2, s3⟩ := snew_ok hc.1 hc.2.1
    obtain ⟨t1, t2, t3⟩ := gjump_ok s1 s2 (c.p + c.m)
    have q1 : (glim c.k - c.p < n) = False := eq_false (by omega)
    have ea : (c.p + n) % 340282366920938463463374607431768211456 = c.p + n := by omega
    have el : ((c.m : Int) % 18446744073709551616).toNat = c.m := by omega
    have ok : c.m - n + n ≤ 8 + n → (c.skip n).ok := fun _ => ⟨hc.1, hc.2.1, by show c.m - n ≤ 8; omega, by have := hc.2.2.2; show c.p + n + (c.m - n) ≤ glim c.k; omega⟩
    have ok := ok (by omega)
    by_cases c1 : n ≤ c.m
    · have c1' := eq_true c1
      have eA : gjump (snew c.k c.n) (c.p + c.m) = gjump (snew c.k c.n) ((c.skip n).p + (c.skip n).m) := by show _ = gjump _ (c.p + n + (c.m - n)); rw [show c.p + n + (c.m - n) = c.p + c.m by omega]
      have en : n % 18446744073709551616 = n := by omega
      have dn := tW_decm en
      have e5 : ((c.m : Int) - (n : Int)).toNat = c.m - n := by omega
      rcases hb with ⟨hb, rfl⟩ | ⟨lo, rfl, hb1, hb2⟩
      · have fin : cuOf id (cuC c.k c.n (c.p + n) x (.sl []) (gjump (snew c.k c.n) (c.p + c.m))) = some (c.skip n) := cuOf_iff.2 ⟨x, _, by rw [eA]; rfl, ok, .inl ⟨by show c.m - n = 0; omega, rfl⟩⟩
        have n0 : n = 0 := by omega
        obtain ⟨A, hA⟩ : ∃ A, gjump (snew c.k c.n) (c.p + c.m) = A := ⟨_, rfl⟩
        rw [hA] at h1 h2' t2 fin
        unfold cuC at h1 h2' fin
        rw [hb] at c1' el
        simp only [go_sem, Tryz.f25, kn1, kn2, kn3, kn4, kn5, kn6, kn7, kn8, kn9, kz1, kz2, kz3, kz4, kz5, kz6, kz7, kz8, kz9, kz0, reduceCtorEq, String.reduceEq, kn0, kq1, kq2, kq3, kq4, Int.toNat_natCast, h1, h2', cmpN_gt, cmpN_le, q1, ea, el, c1', en, dn, e5, tW_lit]
        intros
        exact ⟨by omega, .one fin⟩
      · have fin : cuOf id (cuC c.k c.n (c.p + n) x (.arr (.obj id (4 + lo + n)) (c.m - n)) (gjump (snew c.k c.n) (c.p + c.m))) = some (c.skip n) := cuOf_iff.2 ⟨x, _, by rw [eA, Nat.add_assoc 4 lo n]; rfl, ok, .inr ⟨lo + n, rfl, by show lo + n + (c.m - n) ≤ 8; omega, fun i hi => by
          have hi' : i < c.m - n := hi
          have := hb2 (n + i) (by omega)
          rw [show lo + n + i = lo + (n + i) by omega, this, show c.p + (n + i) = (c.skip n).p + i by show _ = c.p + n + i; omega]; rfl⟩⟩
        obtain ⟨A, hA⟩ : ∃ A, gjump (snew c.k c.n) (c.p + c.m) = A := ⟨_, rfl⟩
        rw [hA] at h1 h2' t2 fin
        unfold cuC at h1 h2' fin
        simp only [go_sem, Tryz.f25, kn1, kn2, kn3, kn4, kn5, kn6, kn7, kn8, kn9, kz1, kz2, kz3, kz4, kz5, kz6, kz7, kz8, kz9, kz0, reduceCtorEq, String.reduceEq, kn0, kq1, kq2, kq3, kq4, Int.toNat_natCast, h1, h2', cmpN_gt, cmpN_le, q1, ea, el, c1', en, dn, e5, tW_lit]
        intros
        exact ⟨by omega, .one fin⟩
    · have c1' := eq_false c1
      have es : (n + 340282366920938463463374607431768211456 - c.m) % 340282366920938463463374607431768211456 = n - c.m := by omega
      have fin : cuOf id (cuC c.k c.n (c.p + n) x (.sl []) (gjump (gjump (snew c.k c.n) (c.p + c.m)) (n - c.m))) = some (c.skip n) := by
        refine cuOf_iff.2 ⟨x, _, ?_, ok, .inl ⟨by show c.m - n = 0; omega, rfl⟩⟩
        rw [gjump_add s1 s2]
        show _ = cuC c.k c.n (c.p + n) x (.sl []) (gjump (snew c.k c.n) (c.p + n + (c.m - n)))
        rw [show c.p + c.m + (n - c.m) = c.p + n + (c.m - n) by omega]
      obtain ⟨A, hA⟩ : ∃ A, gjump (snew c.k c.n) (c.p + c.m) = A := ⟨_, rfl⟩
      rw [hA] at h1 h2' t2 fin
      unfold cuC at h1 h2' fin
      have hv : (v = .sl [] ∧ c.m = 0) ∨ ∃ lo, v = .arr (.obj id (4 + lo)) c.m := by
        rcases hb with ⟨g1, g2⟩ | ⟨lo, g, _⟩
        · exact .inl ⟨g2, g1⟩
        · exact .inr ⟨lo, g⟩
      rcases hv with ⟨rfl, m0⟩ | ⟨lo, rfl⟩
      · rw [m0] at el c1' es fin
        simp only [go_sem, Tryz.f25, kn1, kn2, kn3, kn4, kn5, kn6, kn7, kn8, kn9, kz1, kz2, kz3, kz4, kz5, kz6, kz7, kz8, kz9, kz0, reduceCtorEq, String.reduceEq, kn0, kq1, kq2, kq3, kq4, Int.toNat_natCast, h1, h2', cmpN_gt, cmpN_le, q1, ea, el, c1', es, tW_lit, t2]
        intros
        exact .one fin
      · simp only [go_sem, Tryz.f25, kn1, kn2, kn3, kn4, kn5, kn6, kn7, kn8, kn9, kz1, kz2, kz3, kz4, kz5, kz6, kz7, kz8, kz9, kz0, reduceCtorEq, String.reduceEq, kn0, kq1, kq2, kq3, kq4, Int.toNat_natCast, h1, h2', cmpN_gt, cmpN_le, q1, ea, el, c1', es, tW_lit, t2]
        intros
        exact .one fin
  · intro c n id om cs h1 h2 hw _ h4
    have h2' := h2
    obtain ⟨x, v, rfl, hc, hb⟩ := cuOf_inv h2
    have hm := hc.2.2.2
    have q1 : (glim c.k - c.p < n) = True := eq_true (by omega)
    simp only [go_sem, Tryz.f25, kn1, kn2, kn3, kn4, kn5, kn6, kn7, kn8, kn9, kz1, kz2, kz3, kz4, kz5, kz6, kz7, kz8, kz9, kz0, reduceCtorEq, String.reduceEq, kn0, kq1, kq2, kq3, kq4, Int.toNat_natCast, h1, h2', cmpN_gt, q1]
def nerr (k : Int) (p : Nat) : Int := if 1 ≤ k ∧ k ≤ 4 then if p ≤ glim k then 0 else 10 else 2
@[go_sem] noncomputable def c_cursor_New : Cn := nw3 cuOf tZ (tN .u64) tW (fun k _ p => nerr k p) fun k n p => ⟨k, n, p, 0⟩
noncomputable def cx_cursor_New : Cx := { T := T, E := E, cs := [(36, c_wide_Cmp), (37, c_gen_Limit), (75, c_seed_New), (76, c_gen_Jump)], sch := [(4, false, .take 0 (.take 1 (.alt 2 (.alt 3 (.take 4 (.take 5 (.done))) .no) .no)))], ob := [37], qs := [36, 37, 75, 76] }
@[go_sem] theorem cx_cursor_New_e : cx_cursor_New.gs = none ∧ cx_cursor_New.md = 0 ∧ cx_cursor_New.T = T ∧ cx_cursor_New.E = E ∧ cx_cursor_New.cs = [(36, c_wide_Cmp), (37, c_gen_Limit), (75, c_seed_New), (76, c_gen_Jump)] ∧ cx_cursor_New.sch = [(4, false, .take 0 (.take 1 (.alt 2 (.alt 3 (.take 4 (.take 5 (.done))) .no) .no)))] ∧ cx_cursor_New.ob = [37] := ⟨rfl, rfl, rfl, rfl, rfl, rfl, rfl⟩
theorem cok_cursor_New : COk Tryz.prog (cx_cursor_New) := cok_of rfl (.cons ok_wide_Cmp (.cons ok_gen_Limit (.cons ok_seed_New (.cons ok_gen_Jump (.nil))))) (.cons (fun _ => fn2_quiet) (.cons (fun _ => fn1_quiet) (.cons (fun _ => fn2i_quiet) (.cons (fun _ => fn2i_quiet) (.nil))))) (.nil)
theorem ok_cursor_New : Ok Tryz.prog 16 c_cursor_New := by
  refine ok_nw3 cok_cursor_New mixed Tryz.func16 rfl (by kernel_rfl) (by kernel_rfl) rfl ?_ ?_
  · intro k n p om hw he
    have hn : n < 18446744073709551616 := hw.2.1
    unfold nerr at he
    by_cases hk : 1 ≤ k ∧ k ≤ 4
    · rw [if_pos hk] at he
      by_cases hp : p ≤ glim k
      · obtain ⟨s1, s2, s3⟩ := snew_ok hk hn
        have q1 : (glim k < p) = False := eq_false (by omega)
        have fin : ∀ id, cuOf id (cuC k n p ⟨0, 0, 0, 0, 0, 0, 0, 0⟩ (.sl []) (gjump (snew k n) p)) = some ⟨k, n, p, 0⟩ := fun id => cuOf_iff.2 ⟨_, _, rfl, ⟨hk, hn, Nat.zero_le _, hp⟩, .inl ⟨rfl, rfl⟩⟩
        unfold cuC at fin
        simp only [go_sem, Tryz.f16, kn1, kn2, kn3, kn4, kn5, kn6, kn7, kn8, kn9, kz1, kz2, kz3, kz4, kz5, kz6, kz7, kz8, kz9, kz0, reduceCtorEq, String.reduceEq, kn0, kq1, kq2, kq3, kq4, Int.toNat_natCast, hk, cmpN_gt, q1, s2]
        intros
        rename_i id hid
        exact ⟨id, hid, _, fin id, .refl _, rfl⟩
      · rw [if_neg hp] at he; cases he
    · rw [if_neg hk] at he; cases he
  · intro k n p om hw he
    have hn : n < 18446744073709551616 := hw.2.1
    unfold nerr at he ⊢
    by_cases hk : 1 ≤ k ∧ k ≤ 4
    · rw [if_pos hk] at he ⊢
      by_cases hp : p ≤ glim k
      · rw [if_pos hp] at he; exact absurd rfl he
      · rw [if_neg hp]
        have q1 : (glim k < p) = True := eq_true (by omega)
        simp only [go_sem, Tryz.f16, kn1, kn2, kn3, kn4, kn5, kn6, kn7, kn8, kn9, kz1, kz2, kz3, kz4, kz5, kz6, kz7, kz8, kz9, kz0, reduceCtorEq, String.reduceEq, kn0, kq1, kq2, kq3, kq4, Int.toNat_natCast, hk, cmpN_gt, q1]
    · have hk' := eq_false hk
      rw [if_neg hk]
      simp only [go_sem, Tryz.f16, kn1, kn2, kn3, kn4, kn5, kn6, kn7, kn8, kn9, kz1, kz2, kz3, kz4, kz5, kz6, kz7, kz8, kz9, kz0, reduceCtorEq, String.reduceEq, kn0, kq1, kq2, kq3, kq4, Int.toNat_natCast, hk']
@[go_sem] noncomputable def c_cursor_Cursor_Copy : Cn := cp0 cuOf
noncomputable def cx_cursor_Cursor_Copy : Cx := { T := T, E := E, cs := [], sch := [(2, false, .take 0 (.take 1 (.take 2 (.take 3 (.take 4 (.take 5 (.alt 6 (.take 7 (.done)) .no)))))))], ob := [3], qs := [] }
@[go_sem] theorem cx_cursor_Cursor_Copy_e : cx_cursor_Cursor_Copy.gs = none ∧ cx_cursor_Cursor_Copy.md = 0 ∧ cx_cursor_Cursor_Copy.T = T ∧ cx_cursor_Cursor_Copy.E = E ∧ cx_cursor_Cursor_Copy.cs = [] ∧ cx_cursor_Cursor_Copy.sch = [(2, false, .take 0 (.take 1 (.take 2 (.take 3 (.take 4 (.take 5 (.alt 6 (.take 7 (.done)) .no)))))))] ∧ cx_cursor_Cursor_Copy.ob = [3] := ⟨rfl, rfl, rfl, rfl, rfl, rfl, rfl⟩
theorem cok_cursor_Cursor_Copy : COk Tryz.prog (cx_cursor_Cursor_Copy) := cok_of rfl (.nil) (.nil) (.nil)
theorem ok_cursor_Cursor_Copy : Ok Tryz.prog 34 c_cursor_Cursor_Copy := by
  refine ok_cp0 cok_cursor_Cursor_Copy mixed Tryz.func34 rfl (by kernel_rfl) (by kernel_rfl) rfl ?_
  intro c id om cs h1 h2
  have h2' := h2
  obtain ⟨x, v, rfl, hc, hb⟩ := cuOf_inv h2
  have ne : ∀ j, om j = none → ¬ id = j := fun j hj e => by rw [e, hj] at h1; cases h1
  rcases hb with ⟨hb, rfl⟩ | ⟨lo, rfl, hb1, hb2⟩
  · have fin : ∀ j, cuOf j (cuC c.k c.n c.p x (.arr (.obj j 4) 0) (gjump (snew c.k c.n) (c.p + c.m))) = some c := fun j => cuOf_iff.2 ⟨x, _, rfl, hc, .inr ⟨0, by rw [hb], by rw [hb]; omega, fun i hi => by omega⟩⟩
    obtain ⟨A, hA⟩ : ∃ A, gjump (snew c.k c.n) (c.p + c.m) = A := ⟨_, rfl⟩
    rw [hA] at h1 fin
    unfold cuC at h1 fin
    simp only [go_sem, Tryz.f34, kn1, kn2, kn3, kn4, kn5, kn6, kn7, kn8, kn9, kz1, kz2, kz3, kz4, kz5, kz6, kz7, kz8, kz9, kz0, reduceCtorEq, String.reduceEq, kn0, kq1, kq2, kq3, kq4, Int.toNat_natCast, h1]
    intro j hj
    have n1 := eq_false (ne j hj)
    have e1 := flat_n .u64 []
    rw [els_nil] at e1
    simp only [go_sem, kn1, kn2, kn3, kn4, kn5, kn6, kn7, kn8, kn9, kz1, kz2, kz3, kz4, kz5, kz6, kz7, kz8, kz9, kz0, reduceCtorEq, String.reduceEq, kn0, kq1, kq2, kq3, kq4, Int.toNat_natCast, n1, h1, e1]
    exact ⟨by decide, .one hj (fin j)⟩
  · obtain ⟨e1, e2⟩ := cuC_buf (k := c.k) (n := c.n) (p := c.p) (x := x) (v := .arr (.obj id (4 + lo)) c.m) (A := gjump (snew c.k c.n) (c.p + c.m)) hb1
    rw [bufOk_buf (id := id) hc hb1 hb2] at e1
    have bl : c.buf.length = c.m := by simp [Cu.buf]
    have put : ∀ v, _ := fun v => cuC_put (k := c.k) (n := c.n) (p := c.p) (x := x) (v := v) (A := gjump (snew c.k c.n) (c.p + c.m)) (w := c.buf) (by have := hc.2.2.1; omega)
    have fin : ∀ j, cuOf j (cuC c.k c.n c.p (B8.of (c.buf ++ x.l.drop c.buf.length)) (.arr (.obj j 4) c.m) (gjump (snew c.k c.n) (c.p + c.m))) = some c := fun j => cuOf_iff.2 ⟨_, _, rfl, hc, .inr ⟨0, rfl, by have := hc.2.2.1; omega, fun i hi => by
      rw [B8.l_of (by simp [B8.l]; have := hc.2.2.1; omega), Nat.zero_add, List.getD_eq_getElem?_getD, List.getElem?_append_left (by omega), ← List.getD_eq_getElem?_getD]
      exact swords_getD hc.1 hc.2.1 hi⟩⟩
    obtain ⟨A, hA⟩ : ∃ A, gjump (snew c.k c.n) (c.p + c.m) = A := ⟨_, rfl⟩
    simp only [hA] at fin
    rw [hA] at h1 e1 e2
    simp only [hA] at put
    unfold cuC at h1 fin e1 e2 put
    simp only [go_sem, Tryz.f34, kn1, kn2, kn3, kn4, kn5, kn6, kn7, kn8, kn9, kz1, kz2, kz3, kz4, kz5, kz6, kz7, kz8, kz9, kz0, reduceCtorEq, String.reduceEq, kn0, kq1, kq2, kq3, kq4, Int.toNat_natCast, h1]
    intro j hj
    have n1 := eq_false (ne j hj)
    have m8 : min c.m 8 = c.m := Nat.min_eq_left hc.2.2.1
    have tk : c.buf.take c.m = c.buf := List.take_of_length_le (by omega)
    have e4 : ((c.m : Int) - 0).toNat = c.m := by omega
    simp only [els_len, bl] at e2 put
    simp only [go_sem, kn1, kn2, kn3, kn4, kn5, kn6, kn7, kn8, kn9, kz1, kz2, kz3, kz4, kz5, kz6, kz7, kz8, kz9, kz0, reduceCtorEq, String.reduceEq, kn0, kq1, kq2, kq3, kq4, Int.toNat_natCast, n1, h1, e1, e2, bl, m8, tk, flat_n, put, e4]
    simp only [bl] at fin
    exact ⟨by omega, by omega, by omega, .one hj (fin j)⟩
end Go.Proofs.YteomkgcepiecjaaGreat.I
