/- cursor: fill, Next, Skip. -/
import Derived.Test.YteomkgcepiecjaaGreatZCur1
namespace Go.Proofs.YteomkgcepiecjaaGreat.I
open Go
open Nat renaming reduceEqDiff → kn1, reduceBEq → kn2, reducePow → kn3, reduceMod → kn4, reduceAdd → kn5, reduceSub → kn6, reduceMul → kn7, reduceDiv → kn8, reduceLeDiff → kn9, reduceLT → kn0, zero_lt_one → kq1, zero_add → kq2, zero_le → kq3, le_refl → kq4
open Int renaming reduceToNat → kz1, reduceAdd → kz2, reduceSub → kz3, reduceMul → kz4, reduceDiv → kz5, reduceMod → kz6, reduceLE → kz7, reduceLT → kz8, reduceNeg → kz9, reduceEq → kz0
set_option maxRecDepth 10000
set_option linter.unusedSimpArgs false
set_option linter.unusedVariables false
theorem flat_n (k : IntKind) (l : List Nat) : flat (els (V.n k) l) = els (V.n k) l := by
  induction l with
  | nil => rfl
  | cons x l ih => rw [els_cons]; show [V.n k x] ++ flat (els (V.n k) l) = _; rw [ih]; rfl
theorem cuC_put {k : Int} {n p : Nat} {x : B8} {v : V} {A : GS} {w : List Nat} (h : w.length ≤ 8) : els (V.n .u64) w ++ (cuC k n p x v A).drop (4 + w.length) = (cuC k n p (B8.of (w ++ x.l.drop w.length)) v A).drop 4 := by
  match w, h with
  | [], _ => rfl
  | [_], _ => rfl
  | [_, _], _ => rfl
  | [_, _, _], _ => rfl
  | [_, _, _, _], _ => rfl
  | [_, _, _, _, _], _ => rfl
  | [_, _, _, _, _, _], _ => rfl
  | [_, _, _, _, _, _, _], _ => rfl
  | [_, _, _, _, _, _, _, _], _ => rfl
  | _ :: _ :: _ :: _ :: _ :: _ :: _ :: _ :: _ :: _, h => simp only [List.length_cons] at h; omega
def Cu.many (c : Cu) : Nat := min 8 (glim c.k - c.p)
@[go_sem] noncomputable def c_cursor_Cursor_fill : Cn := oc0 cuOf (fun c => c.m = 0 ∧ c.p < glim c.k) (fun _ => True) (fun _ => .tup []) (fun _ => .tup []) fun c => ⟨c.k, c.n, c.p, c.many⟩
noncomputable def cx_cursor_Cursor_fill : Cx := { T := T, E := E, cs := [(17, c_wide_Of), (36, c_wide_Cmp), (82, c_cursor_Cursor_left), (89, c_gen_Words)], sch := [(2, false, .take 0 (.alt 1 (.alt 2 (.take 3 (.done)) .no) .no)), (6, false, .take 0 (.take 1 (.take 2 (.take 3 (.take 4 (.take 5 (.take 6 (.take 7 (.take 9 (.take 10 (.alt 8 (.alt 11 (.take 12 (.take 13 (.alt 14 (.done) .no))) .no) (.alt 11 (.take 8 (.take 12 (.take 13 (.alt 14 (.done) .no)))) (.no)))))))))))))], ob := [], qs := [17, 36, 82, 89] }
@[go_sem] theorem cx_cursor_Cursor_fill_e : cx_cursor_Cursor_fill.gs = none ∧ cx_cursor_Cursor_fill.md = 0 ∧ cx_cursor_Cursor_fill.T = T ∧ cx_cursor_Cursor_fill.E = E ∧ cx_cursor_Cursor_fill.cs = [(17, c_wide_Of), (36, c_wide_Cmp), (82, c_cursor_Cursor_left), (89, c_gen_Words)] ∧ cx_cursor_Cursor_fill.sch = [(2, false, .take 0 (.alt 1 (.alt 2 (.take 3 (.done)) .no) .no)), (6, false, .take 0 (.take 1 (.take 2 (.take 3 (.take 4 (.take 5 (.take 6 (.take 7 (.take 9 (.take 10 (.alt 8 (.alt 11 (.take 12 (.take 13 (.alt 14 (.done) .no))) .no) (.alt 11 (.take 8 (.take 12 (.take 13 (.alt 14 (.done) .no)))) (.no)))))))))))))] ∧ ∀ d, (cx_cursor_Cursor_fill.ob).contains d = false := ⟨rfl, rfl, rfl, rfl, rfl, rfl, fun _ => rfl⟩
theorem cok_cursor_Cursor_fill : COk Tryz.prog (cx_cursor_Cursor_fill) := cok_of rfl (.cons ok_wide_Of (.cons ok_wide_Cmp (.cons ok_cursor_Cursor_left (.cons ok_gen_Words (.nil))))) (.cons (fun _ => fn1_quiet) (.cons (fun _ => fn2_quiet) (.cons (fun _ => om0_quiet) (.cons (fun _ => fn2j_quiet) (.nil))))) (.nil)
theorem ok_cursor_Cursor_fill : Ok Tryz.prog 83 c_cursor_Cursor_fill := by
  refine ok_oc0 cok_cursor_Cursor_fill mixed Tryz.func83 rfl (by kernel_rfl) (by kernel_rfl) rfl ?_ ?_
  · intro c id om cs h1 h2 ⟨h3, h4⟩ _
    have h2' := h2
    obtain ⟨x, v, rfl, hc, hb⟩ := cuOf_inv h2
    obtain ⟨s1, s2, s3⟩ := snew_ok hc.1 hc.2.1
    have hg := glim_lt c.k
    rw [h3, Nat.add_zero] at h1 h2 h2'
    obtain ⟨t1, t2, t3⟩ := gjump_ok s1 s2 c.p
    obtain ⟨A, hA⟩ : ∃ A, gjump (snew c.k c.n) c.p = A := ⟨_, rfl⟩
    rw [hA] at t1 t2 t3 h1 h2 h2'
    have fin : ∀ M, M = c.many → cuOf id (cuC c.k c.n c.p (B8.of (swords A M ++ x.l.drop M)) (.arr (.obj id 4) M) (gst A M)) = some ⟨c.k, c.n, c.p, c.many⟩ := fun M e => by
      have e8 : M ≤ 8 := by rw [e]; exact Nat.min_le_left _ _
      have e9 : c.many ≤ glim c.k - c.p := Nat.min_le_right _ _
      have ok : (⟨c.k, c.n, c.p, c.many⟩ : Cu).ok := ⟨hc.1, hc.2.1, by show c.many ≤ 8; omega, by show c.p + c.many ≤ glim c.k; omega⟩
      refine cuOf_iff.2 ⟨B8.of (swords A M ++ x.l.drop M), .arr (.obj id 4) M, ?_, ok, .inr ⟨0, by rw [e], by show 0 + c.many ≤ 8; omega, fun i hi => ?_⟩⟩
      · rw [gst_gjump t1 t2, ← hA, gjump_add s1 s2, e]
      · have hi' : i < M := by rw [e]; exact hi
        rw [B8.l_of (by simp [B8.l]; omega), Nat.zero_add]
        rw [List.getD_eq_getElem?_getD, List.getElem?_append_left (by simpa using hi'), ← List.getD_eq_getElem?_getD, ← hA]
        exact swords_getD hc.1 hc.2.1 hi'
    have put : ∀ M, M ≤ 8 → _ := fun M hM => cuC_put (k := c.k) (n := c.n) (p := c.p) (x := x) (v := v) (A := A) (w := swords A M) (by simpa using hM)
    have hw : ∀ M, (List.range M).map (fun i => gword (gst A i)) = swords A M := fun M => rfl
    have d8 := tW_lit (l := 8) (by omega)
    unfold cuC at h1 h2' put
    simp only [swords_len, List.drop_succ_cons, List.drop_zero] at put
    by_cases c8 : glim c.k - c.p < 8
    · obtain ⟨M, hM⟩ : ∃ M, glim c.k - c.p = M := ⟨_, rfl⟩
      rw [hM] at c8
      have c8' := eq_true c8
      have em : M = c.many := by unfold Cu.many; omega
      have e1 : M % 18446744073709551616 = M := by omega
      have dM : tW.dec (.agg [.n .u64 (M / 18446744073709551616), .n .u64 M]) = some M := by
        have h := tW.h1 M
        rw [show tW.enc M = V.agg [.n .u64 (M / 18446744073709551616), .n .u64 (M % 18446744073709551616)] from rfl, e1] at h
        exact h
      have e2 : ((M : Int) < 0 ∨ 256 < (M : Int)) = False := eq_false (by omega)
      have e3 : min M 8 = M := by omega
      have e4 : ((M : Int) - 0).toNat = M := by omega
      have fm := fin M em
      have pm := put M (by omega)
      unfold cuC at fm
      simp only [go_sem, Tryz.f83, kn1, kn2, kn3, kn4, kn5, kn6, kn7, kn8, kn9, kz1, kz2, kz3, kz4, kz5, kz6, kz7, kz8, kz9, kz0, reduceCtorEq, String.reduceEq, kn0, kq1, kq2, kq3, kq4, Int.toNat_natCast, h1, h2', hM, c8', cmpN_lt, t2, d8, dM, e1, e2, e3, hw, flat_n, swords_len, List.take_of_length_le, Nat.le_refl, pm, e4]
      exact fun _ _ => ⟨by omega, fun _ => ⟨by omega, by omega, .one fm⟩⟩
    · have c8' := eq_false c8
      have em : 8 = c.many := by unfold Cu.many; omega
      have fm := fin 8 em
      have pm := put 8 (by omega)
      unfold cuC at fm
      simp only [go_sem, Tryz.f83, kn1, kn2, kn3, kn4, kn5, kn6, kn7, kn8, kn9, kz1, kz2, kz3, kz4, kz5, kz6, kz7, kz8, kz9, kz0, reduceCtorEq, String.reduceEq, kn0, kq1, kq2, kq3, kq4, Int.toNat_natCast, h1, h2', c8', cmpN_lt, t2, d8, hw 8, flat_n, swords_len, List.take_of_length_le, Nat.le_refl, Nat.min_self, pm]
      simp only [show List.range 0 ++ [0] ++ [1] ++ [2] ++ [3] ++ [4] ++ [5] ++ [6] ++ [7] = List.range 8 from rfl, hw 8, flat_n, swords_len, List.take_of_length_le, Nat.le_refl, Nat.min_self, pm]
      simp only [go_sem, kn1, kn2, kn3, kn4, kn5, kn6, kn7, kn8, kn9, kz1, kz2, kz3, kz4, kz5, kz6, kz7, kz8, kz9, kz0, reduceCtorEq, String.reduceEq, kn0, kq1, kq2, kq3, kq4, Int.toNat_natCast]
      exact fun _ _ _ => .one fm
  · intro c id om cs _ _ _ h
    exact absurd trivial h
theorem cuC_at {k : Int} {n p : Nat} {x : B8} {v : V} {A : GS} {lo : Nat} (h : lo < 8) : hasN (4 + lo) 1 (cuC k n p x v A) = true ∧ (cuC k n p x v A).getD (4 + lo) .u = .n .u64 (x.l.getD lo 0) := by
  obtain rfl | rfl | rfl | rfl | rfl | rfl | rfl | rfl : lo = 0 ∨ lo = 1 ∨ lo = 2 ∨ lo = 3 ∨ lo = 4 ∨ lo = 5 ∨ lo = 6 ∨ lo = 7 := by omega
  all_goals exact ⟨rfl, rfl⟩
def Cu.next (c : Cu) : Cu := ⟨c.k, c.n, c.p + 1, (if c.m = 0 then c.many else c.m) - 1⟩
@[go_sem] noncomputable def c_cursor_Cursor_Next : Cn := oc0 cuOf (fun _ => True) (fun c => c.p < glim c.k) (fun c => .tup [.n .u64 (wAt c.k c.n c.p), .z 0]) (fun _ => .tup [.n .u64 0, .z 10]) Cu.next
noncomputable def cx_cursor_Cursor_Next : Cx := { T := T, E := E, cs := [(17, c_wide_Of), (35, c_wide_Add), (82, c_cursor_Cursor_left), (83, c_cursor_Cursor_fill)], sch := [(7, false, .take 0 (.take 1 (.take 2 (.take 3 (.take 4 (.alt 5 (.alt 6 (.take 7 (.take 8 (.take 9 (.take 10 (.take 11 (.alt 12 (.done) .no)))))) .no) .no))))))], ob := [], qs := [17, 35, 82] }
@[go_sem] theorem cx_cursor_Cursor_Next_e : cx_cursor_Cursor_Next.gs = none ∧ cx_cursor_Cursor_Next.md = 0 ∧ cx_cursor_Cursor_Next.T = T ∧ cx_cursor_Cursor_Next.E = E ∧ cx_cursor_Cursor_Next.cs = [(17, c_wide_Of), (35, c_wide_Add), (82, c_cursor_Cursor_left), (83, c_cursor_Cursor_fill)] ∧ cx_cursor_Cursor_Next.sch = [(7, false, .take 0 (.take 1 (.take 2 (.take 3 (.take 4 (.alt 5 (.alt 6 (.take 7 (.take 8 (.take 9 (.take 10 (.take 11 (.alt 12 (.done) .no)))))) .no) .no))))))] ∧ ∀ d, (cx_cursor_Cursor_Next.ob).contains d = false := ⟨rfl, rfl, rfl, rfl, rfl, rfl, fun _ => rfl⟩
theorem cok_cursor_Cursor_Next : COk Tryz.prog (cx_cursor_Cursor_Next) := cok_of rfl (.cons ok_wide_Of (.cons ok_wide_Add (.cons ok_cursor_Cursor_left (.cons ok_cursor_Cursor_fill (.nil))))) (.cons (fun _ => fn1_quiet) (.cons (fun _ => fn2_quiet) (.cons (fun _ => om0_quiet) (.cons (fun h => absurd h (by decide)) (.nil))))) (.nil)
theorem ok_cursor_Cursor_Next : Ok Tryz.prog 23 c_cursor_Cursor_Next := by
  refine ok_oc0 cok_cursor_Cursor_Next mixed Tryz.func23 rfl (by kernel_rfl) (by kernel_rfl) rfl ?_ ?_
  · intro c id om cs h1 h2 _ h4
    have h2' := h2
    obtain ⟨x, v, rfl, hc, hb⟩ := cuOf_inv h2
    have hg := glim_lt c.k
    have d1 := tW_lit (l := 1) (by omega)
    have nz : ((glim c.k - c.p) / 18446744073709551616 = 0 ∧ (glim c.k - c.p) % 18446744073709551616 = 0) = False := eq_false (by omega)
    have ea : (c.p + 1) % 340282366920938463463374607431768211456 = c.p + 1 := by omega
    have fin : ∀ (y : B8) (m lo : Nat), m = (if c.m = 0 then c.many else c.m) → 1 ≤ m → c.p + m ≤ glim c.k → m ≤ 8 → lo + m ≤ 8 → (∀ i, i < m → y.l.getD (lo + i) 0 = wAt c.k c.n (c.p + i)) →
        y.l.getD lo 0 = wAt c.k c.n c.p ∧ cuOf id (cuC c.k c.n (c.p + 1) y (.arr (.obj id (4 + lo + 1)) (m - 1)) (gjump (snew c.k c.n) (c.p + m))) = some c.next := fun y m lo e g1 g2 g3 g4 g5 => by
      refine ⟨g5 0 (by omega), cuOf_iff.2 ⟨y, .arr (.obj id (4 + lo + 1)) (m - 1), ?_, ⟨hc.1, hc.2.1, ?_, ?_⟩, .inr ⟨lo + 1, ?_, ?_, fun i hi => ?_⟩⟩⟩
      · unfold Cu.next; rw [← e]; simp only; rw [show c.p + 1 + (m - 1) = c.p + m by omega]
      · unfold Cu.next; rw [← e]; simp only; omega
      · unfold Cu.next; rw [← e]; simp only; omega
      · unfold Cu.next; rw [← e]; rfl
      · unfold Cu.next; rw [← e]; simp only; omega
      · have hi' : i < m - 1 := by unfold Cu.next at hi; rw [← e] at hi; exact hi
        have := g5 (i + 1) (by omega)
        rw [show lo + 1 + i = lo + (i + 1) by omega, this, show c.p + (i + 1) = c.next.p + i by show _ = c.p + 1 + i; omega]; rfl
    by_cases c0 : c.m = 0
    · have zl : (0 : Nat) = 0 := rfl
      have e1 : 1 ≤ c.many := by unfold Cu.many; omega
      have e2 : c.p + c.many ≤ glim c.k := by unfold Cu.many; omega
      have e3 : c.many ≤ 8 := by unfold Cu.many; omega
      have cont : ∀ (y : B8) (lo : Nat), lo + c.many ≤ 8 → (∀ i, i < c.many → y.l.getD (lo + i) 0 = wAt c.k c.n (c.p + i)) → _ := fun y lo => fin y c.many lo (by rw [if_pos c0]) e1 e2 e3
      obtain ⟨A, hA⟩ : ∃ A, gjump (snew c.k c.n) (c.p + c.m) = A := ⟨_, rfl⟩
      rw [hA] at h1 h2'
      unfold cuC at h1 h2'
      rcases hb with ⟨-, rfl⟩ | ⟨lo0, rfl, -, -⟩
      · simp only [go_sem, Tryz.f23, kn1, kn2, kn3, kn4, kn5, kn6, kn7, kn8, kn9, kz1, kz2, kz3, kz4, kz5, kz6, kz7, kz8, kz9, kz0, reduceCtorEq, String.reduceEq, kn0, kq1, kq2, kq3, kq4, Int.toNat_natCast, h1, h2', nz, c0, d1, ea]
        refine fun _ => ⟨h4, fun cs' h' => ?_⟩
        obtain ⟨y, v', rfl, hc', hb'⟩ := cuOf_inv h'
        rcases hb' with ⟨q, -⟩ | ⟨lo, rfl, hb1, hb2⟩
        · have q' : c.many = 0 := q
          omega
        have hb1' : lo + c.many ≤ 8 := hb1
        obtain ⟨f1, f2⟩ := cuC_at (k := c.k) (n := c.n) (p := c.p) (x := y) (v := .arr (.obj id (4 + lo)) c.many) (A := gjump (snew c.k c.n) (c.p + c.many)) (lo := lo) (by omega)
        obtain ⟨g1, g2⟩ := cont y lo hb1 hb2
        have e4 : ((c.many : Int) - 1).toNat = c.many - 1 := by omega
        unfold cuC at f1 f2 g2
        simp only [go_sem, kn1, kn2, kn3, kn4, kn5, kn6, kn7, kn8, kn9, kz1, kz2, kz3, kz4, kz5, kz6, kz7, kz8, kz9, kz0, reduceCtorEq, String.reduceEq, kn0, kq1, kq2, kq3, kq4, Int.toNat_natCast, cuC, d1, ea, f1, f2, g1, e4, Nat.add_zero]
        exact ⟨by omega, by omega, fun _ => .one g2⟩
      · rw [c0] at h1 h2'
        simp only [go_sem, Tryz.f23, kn1, kn2, kn3, kn4, kn5, kn6, kn7, kn8, kn9, kz1, kz2, kz3, kz4, kz5, kz6, kz7, kz8, kz9, kz0, reduceCtorEq, String.reduceEq, kn0, kq1, kq2, kq3, kq4, Int.toNat_natCast, h1, h2', nz, c0, d1, ea]
        refine fun _ => ⟨h4, fun cs' h' => ?_⟩
        obtain ⟨y, v', rfl, hc', hb'⟩ := cuOf_inv h'
        rcases hb' with ⟨q, -⟩ | ⟨lo, rfl, hb1, hb2⟩
        · have q' : c.many = 0 := q
          omega
        have hb1' : lo + c.many ≤ 8 := hb1
        obtain ⟨f1, f2⟩ := cuC_at (k := c.k) (n := c.n) (p := c.p) (x := y) (v := .arr (.obj id (4 + lo)) c.many) (A := gjump (snew c.k c.n) (c.p + c.many)) (lo := lo) (by omega)
        obtain ⟨g1, g2⟩ := cont y lo hb1 hb2
        have e4 : ((c.many : Int) - 1).toNat = c.many - 1 := by omega
        unfold cuC at f1 f2 g2
        simp only [go_sem, kn1, kn2, kn3, kn4, kn5, kn6, kn7, kn8, kn9, kz1, kz2, kz3, kz4, kz5, kz6, kz7, kz8, kz9, kz0, reduceCtorEq, String.reduceEq, kn0, kq1, kq2, kq3, kq4, Int.toNat_natCast, cuC, d1, ea, f1, f2, g1, e4, Nat.add_zero]
        exact ⟨by omega, by omega, fun _ => .one g2⟩
    · rcases hb with ⟨hb, -⟩ | ⟨lo, rfl, hb1, hb2⟩
      · exact absurd hb c0
      obtain ⟨f1, f2⟩ := cuC_at (k := c.k) (n := c.n) (p := c.p) (x := x) (v := .arr (.obj id (4 + lo)) c.m) (A := gjump (snew c.k c.n) (c.p + c.m)) (lo := lo) (by omega)
      obtain ⟨g1, g2⟩ := fin x c.m lo (by rw [if_neg c0]) (by omega) hc.2.2.2 hc.2.2.1 hb1 hb2
      have c0' : ((c.m : Int) = 0) = False := eq_false (by omega)
      have e4 : ((c.m : Int) - 1).toNat = c.m - 1 := by omega
      unfold cuC at h1 h2' f1 f2 g2
      simp only [go_sem, Tryz.f23, kn1, kn2, kn3, kn4, kn5, kn6, kn7, kn8, kn9, kz1, kz2, kz3, kz4, kz5, kz6, kz7, kz8, kz9, kz0, reduceCtorEq, String.reduceEq, kn0, kq1, kq2, kq3, kq4, Int.toNat_natCast, h1, h2', nz, c0', d1, ea, f1, f2, g1, e4, Nat.add_zero]
      exact fun _ => ⟨by omega, by omega, fun _ => .one g2⟩
  · intro c id om cs h1 h2 _ h4
    have h2' := h2
    obtain ⟨x, v, rfl, hc, hb⟩ := cuOf_inv h2
    have ez : glim c.k - c.p = 0 := by have := hc.2.2.2; omega
    simp only [go_sem, Tryz.f23, kn1, kn2, kn3, kn4, kn5, kn6, kn7, kn8, kn9, kz1, kz2, kz3, kz4, kz5, kz6, kz7, kz8, kz9, kz0, reduceCtorEq, String.reduceEq, kn0, kq1, kq2, kq3, kq4, Int.toNat_natCast, h1, h2', ez]
end Go.Proofs.YteomkgcepiecjaaGreat.I
