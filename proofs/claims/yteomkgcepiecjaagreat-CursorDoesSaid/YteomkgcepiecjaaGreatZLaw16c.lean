/- Chapter 16: CursorDoes, as a contract. -/
import Derived.Test.YteomkgcepiecjaaGreatZLaw16b
import Derived.Test.YteomkgcepiecjaaGreatZRef16
import Derived.Test.YteomkgcepiecjaaGreatZRef14
import Derived.Test.YteomkgcepiecjaaGreatZRef13c
import Derived.Test.YteomkgcepiecjaaGreatZCn5
namespace Go.Proofs.YteomkgcepiecjaaGreat.I
open Go
open Nat renaming reduceEqDiff → kn1, reduceBEq → kn2, reducePow → kn3, reduceMod → kn4, reduceAdd → kn5, reduceSub → kn6, reduceMul → kn7, reduceDiv → kn8, reduceLeDiff → kn9, reduceLT → kn0, zero_lt_one → kq1, zero_add → kq2, zero_le → kq3, le_refl → kq4
open Int renaming reduceToNat → kz1, reduceAdd → kz2, reduceSub → kz3, reduceMul → kz4, reduceDiv → kz5, reduceMod → kz6, reduceLE → kz7, reduceLT → kz8, reduceNeg → kz9, reduceEq → kz0
set_option maxRecDepth 100000
set_option linter.unusedSimpArgs false
set_option linter.unusedVariables false
@[go_sem] theorem rcOf_ex (id : Nat) (k : Int) (m a b c d p q f u v : Nat) (w : Bool) (x : Nat) (y : Int) (z : Nat) : rcOf id [.z k, .n .u64 m, .n .u64 a, .n .u64 b, .n .u64 c, .n .u64 d, .n .u64 (p / 18446744073709551616), .n .u64 (p % 18446744073709551616), .n .u64 (q / 18446744073709551616), .n .u64 (q % 18446744073709551616), .n .u64 (f / 18446744073709551616), .n .u64 (f % 18446744073709551616), .n .u32 u, .n .u32 v, .b w, .n .u64 (x / 18446744073709551616), .n .u64 (x % 18446744073709551616), .z y, .n .u64 (z / 18446744073709551616), .n .u64 (z % 18446744073709551616)] = some ⟨⟨k, m, ⟨a, b, c, d⟩, ⟨p, q⟩, ⟨f, ⟨u, v⟩, w⟩⟩, x, y, z⟩ := rcOf_rc id ⟨⟨k, m, ⟨a, b, c, d⟩, ⟨p, q⟩, ⟨f, ⟨u, v⟩, w⟩⟩, x, y, z⟩
def Cu.ref (c : Cu) : RC := ⟨gjump (snew c.k c.n) c.p, c.p, (c.m : Nat), glim c.k⟩
theorem gst_snew {k : Int} {n : Nat} (hk : 1 ≤ k ∧ k ≤ 4) (hn : n < 18446744073709551616) (p m : Nat) : gst (gjump (snew k n) p) m = gjump (snew k n) (p + m) := by
  obtain ⟨s1, s2, s3⟩ := snew_ok hk hn
  obtain ⟨t1, t2, t3⟩ := gjump_ok s1 s2 p
  rw [gst_gjump t1 t2, gjump_add s1 s2]
theorem ref_next {k : Int} {n r m : Nat} (hk : 1 ≤ k ∧ k ≤ 4) (hn : n < 18446744073709551616) (hr : r < glim k) : RC.next ⟨gjump (snew k n) r, r, (m : Nat), glim k⟩ = ⟨gjump (snew k n) (r + 1), r + 1, ((Cu.next ⟨k, n, r, m⟩).m : Nat), glim k⟩ := by
  unfold RC.next Cu.next
  simp only [gst_snew hk hn, RC.many, Cu.many]
  congr 1
  by_cases c : m = 0
  · simp only [c, if_true, Int.natCast_zero]; omega
  · rw [if_neg (by omega), if_neg c]; omega
theorem ref_skip {k : Int} {n r m : Nat} (hk : 1 ≤ k ∧ k ≤ 4) (hn : n < 18446744073709551616) (x : Nat) : RC.skip ⟨gjump (snew k n) r, r, (m : Nat), glim k⟩ x = ⟨gjump (snew k n) (r + x), r + x, ((m - x : Nat) : Int), glim k⟩ := by
  unfold RC.skip
  simp only [gst_snew hk hn]
  congr 1
  split <;> omega
theorem glim_big {k : Int} (hk : 1 ≤ k ∧ k ≤ 4) : 9223372036854775808 ≤ glim k := by
  unfold glim; split
  · omega
  · rw [if_pos (by omega)]; omega
theorem lim_eq {k : Int} (hk : 1 ≤ k ∧ k ≤ 4) : (if k = 1 then 9223372036854775808 else 170141183460469231731687303715884105728) = glim k := by
  unfold glim; split
  · rfl
  · rw [if_pos (by omega)]
@[go_sem] noncomputable def c_law16_CursorDoes : Cn := fn5 tZ (tN .u64) (tN .u8) tB (tL tAc) (fun _ _ _ _ _ => True) fun _ _ _ _ _ => .b true
noncomputable def cx_law16_CursorDoes : Cx := { T := T, E := E, cs := [(14, c_law16_awake), (15, c_ref14_New), (16, c_cursor_New), (17, c_wide_Of), (18, c_ref01_Sub), (19, c_ref16_Limit), (20, c_ref13_Jump), (21, c_law13_Own), (22, c_cursor_Cursor_State), (23, c_cursor_Cursor_Next), (24, c_ref16_Cursor_Next), (25, c_cursor_Cursor_Skip), (26, c_ref16_Cursor_Skip), (27, c_cursor_Cursor_Place), (28, c_ref02_Words), (29, c_cursor_Cursor_Buffered), (30, c_ref16_Cursor_Buffered), (31, c_cursor_Cursor_Kind), (32, c_cursor_Cursor_Seed)], sch := [(15, false, .take 0 (.take 1 (.take 2 (.take 4 (.take 5 (.alt 3 (.alt 6 (.take 7 (.alt 8 (.take 9 (.done)) .no)) .no) .no)))))), (29, true, .take 0 (.take 1 (.take 2 (.take 4 (.take 5 (.take 6 (.take 7 (.take 8 (.alt 3 (.alt 9 (.take 10 (.done)) .no) .no))))))))), (31, false, .take 0 (.take 2 (.take 3 (.take 4 (.take 5 (.alt 1 (.take 6 (.take 7 (.take 8 (.take 10 (.alt 9 (.alt 11 (.alt 12 (.take 13 (.take 14 (.take 15 (.take 16 (.take 19 (.take 20 (.take 21 (.take 22 (.alt 17 (.alt 18 (.take 23 (.take 24 (.done))) .no) .no))))))))) .no) .no) .no))))) .no))))))], ob := [92], qs := [14, 15, 16, 17, 18, 19, 20, 21, 22, 27, 28, 29, 30, 31, 32] }
@[go_sem] theorem cx_law16_CursorDoes_e : cx_law16_CursorDoes.gs = none ∧ cx_law16_CursorDoes.md = 0 ∧ cx_law16_CursorDoes.T = T ∧ cx_law16_CursorDoes.E = E ∧ cx_law16_CursorDoes.cs = [(14, c_law16_awake), (15, c_ref14_New), (16, c_cursor_New), (17, c_wide_Of), (18, c_ref01_Sub), (19, c_ref16_Limit), (20, c_ref13_Jump), (21, c_law13_Own), (22, c_cursor_Cursor_State), (23, c_cursor_Cursor_Next), (24, c_ref16_Cursor_Next), (25, c_cursor_Cursor_Skip), (26, c_ref16_Cursor_Skip), (27, c_cursor_Cursor_Place), (28, c_ref02_Words), (29, c_cursor_Cursor_Buffered), (30, c_ref16_Cursor_Buffered), (31, c_cursor_Cursor_Kind), (32, c_cursor_Cursor_Seed)] ∧ cx_law16_CursorDoes.sch = [(15, false, .take 0 (.take 1 (.take 2 (.take 4 (.take 5 (.alt 3 (.alt 6 (.take 7 (.alt 8 (.take 9 (.done)) .no)) .no) .no)))))), (29, true, .take 0 (.take 1 (.take 2 (.take 4 (.take 5 (.take 6 (.take 7 (.take 8 (.alt 3 (.alt 9 (.take 10 (.done)) .no) .no))))))))), (31, false, .take 0 (.take 2 (.take 3 (.take 4 (.take 5 (.alt 1 (.take 6 (.take 7 (.take 8 (.take 10 (.alt 9 (.alt 11 (.alt 12 (.take 13 (.take 14 (.take 15 (.take 16 (.take 19 (.take 20 (.take 21 (.take 22 (.alt 17 (.alt 18 (.take 23 (.take 24 (.done))) .no) .no))))))))) .no) .no) .no))))) .no))))))] ∧ cx_law16_CursorDoes.ob = [92] := ⟨rfl, rfl, rfl, rfl, rfl, rfl, rfl⟩
theorem cok_law16_CursorDoes : COk Tryz.prog (cx_law16_CursorDoes) := cok_of rfl (.cons ok_law16_awake (.cons ok_ref14_New (.cons ok_cursor_New (.cons ok_wide_Of (.cons ok_ref01_Sub (.cons ok_ref16_Limit (.cons ok_ref13_Jump (.cons ok_law13_Own (.cons ok_cursor_Cursor_State (.cons ok_cursor_Cursor_Next (.cons ok_ref16_Cursor_Next (.cons ok_cursor_Cursor_Skip (.cons ok_ref16_Cursor_Skip (.cons ok_cursor_Cursor_Place (.cons ok_ref02_Words (.cons ok_cursor_Cursor_Buffered (.cons ok_ref16_Cursor_Buffered (.cons ok_cursor_Cursor_Kind (.cons ok_cursor_Cursor_Seed (.nil)))))))))))))))))))) (.cons (fun _ => fn0_quiet) (.cons (fun _ => fn2i_quiet) (.cons (fun _ => nw3_quiet) (.cons (fun _ => fn1_quiet) (.cons (fun _ => fn2_quiet) (.cons (fun _ => fn1_quiet) (.cons (fun _ => fn2_quiet) (.cons (fun _ => fn1_quiet) (.cons (fun _ => om0_quiet) (.cons (fun h => absurd h (by decide)) (.cons (fun h => absurd h (by decide)) (.cons (fun h => absurd h (by decide)) (.cons (fun h => absurd h (by decide)) (.cons (fun _ => om0_quiet) (.cons (fun _ => fn2_quiet) (.cons (fun _ => om0_quiet) (.cons (fun _ => om0_quiet) (.cons (fun _ => om0_quiet) (.cons (fun _ => om0_quiet) (.nil)))))))))))))))))))) (.nil)
set_option maxHeartbeats 4000000 in
theorem ok_law16_CursorDoes : Ok Tryz.prog 3 c_law16_CursorDoes := by
  refine ok_fn5 cok_law16_CursorDoes mixed Tryz.func3 rfl (by kernel_rfl) (by kernel_rfl) rfl ?_
  intro k n a b l om hw _
  have hn : n < 18446744073709551616 := hw.2.1
  have ha : a < 256 := hw.2.2.1
  have hl : ∀ x ∈ l, _ := (wf_Ac (l := l) (vs := []) ⟨hw.2.2.2.2.1, trivial⟩).2
  rw [show (tL tAc).enc l = .sl (els vAc l) from rfl]
  by_cases c0 : 60 < l.length
  · have c0' : ((60 : Int) < (l.length : Int)) = True := eq_true (by omega)
    simp (maxSteps := 10000000) only [go_sem, Tryz.f3, kn1, kn2, kn3, kn4, kn5, kn6, kn7, kn8, kn9, kz1, kz2, kz3, kz4, kz5, kz6, kz7, kz8, kz9, kz0, reduceCtorEq, String.reduceEq, kn0, kq1, kq2, kq3, kq4, Int.toNat_natCast, c0']
  have c0' : ((60 : Int) < (l.length : Int)) = False := eq_false (by omega)
  by_cases c1 : 100 < a
  · have c1' := eq_true c1
    simp (maxSteps := 10000000) only [go_sem, Tryz.f3, kn1, kn2, kn3, kn4, kn5, kn6, kn7, kn8, kn9, kz1, kz2, kz3, kz4, kz5, kz6, kz7, kz8, kz9, kz0, reduceCtorEq, String.reduceEq, kn0, kq1, kq2, kq3, kq4, Int.toNat_natCast, c0', c1']
  have c1' := eq_false c1
  have am : a % 18446744073709551616 = a := Nat.mod_eq_of_lt (by omega)
  have ta := tW_lit (l := a) (by omega)
  by_cases hk4 : 1 ≤ k ∧ k ≤ 4
  · have hgl := glim_lt k
    have hgb := glim_big hk4
    obtain ⟨s1, s2, s3⟩ := snew_ok hk4 hn
    have lim := lim_eq hk4
    have gj : gst (snew k n) a = gjump (snew k n) a := gst_gjump s1 s2 a
    have es : (glim k + 340282366920938463463374607431768211456 - a) % 340282366920938463463374607431768211456 = glim k - a := by omega
    cases b
    · have e0 : nerr k a = 0 := by rw [nerr_4 hk4, if_pos (by omega)]
      simp (maxSteps := 10000000) only [go_sem, Tryz.f3, kn1, kn2, kn3, kn4, kn5, kn6, kn7, kn8, kn9, kz1, kz2, kz3, kz4, kz5, kz6, kz7, kz8, kz9, kz0, reduceCtorEq, String.reduceEq, kn0, kq1, kq2, kq3, kq4, Int.toNat_natCast, c0', c1', hk4, am, ta, e0]
      intros
      refine fun id hid cs hcs => ?_
      simp (maxSteps := 10000000) only [go_sem, kn1, kn2, kn3, kn4, kn5, kn6, kn7, kn8, kn9, kz1, kz2, kz3, kz4, kz5, kz6, kz7, kz8, kz9, kz0, reduceCtorEq, String.reduceEq, kn0, kq1, kq2, kq3, kq4, Int.toNat_natCast, lim, gj]
      refine ⟨by omega, fun _ _ j hj => ?_⟩
      have nj : ¬ j = id ∧ ¬ id = j ∧ om j = none := by simpa only [new_iff] using hj
      have n1 := eq_false nj.1
      have n2 := eq_false nj.2.1
      have ad : a / 18446744073709551616 = 0 := Nat.div_eq_of_lt (by omega)
      have okR : ∀ r m (ds : List V), cuOf id ds = some ⟨k, n, r, m⟩ → RC.ok ⟨gjump (snew k n) r, r, (m : Nat), glim k⟩ = True := fun r m ds h => by
        obtain ⟨x2, w2, -, ok2, -⟩ := cuOf_inv h
        have q0 : r + m ≤ glim k := ok2.2.2.2
        have q8 : m ≤ 8 := ok2.2.2.1
        exact eq_true ⟨by show r ≤ glim k; omega, hgl, by show (0 : Int) ≤ (m : Nat); omega, by show ((m : Nat) : Int) ≤ 8; omega⟩
      refine ⟨Nat × Cu × List V, fun s => ⟨[.z k, .n .u64 n, .u, .u, .u, .u, .u, .u, .u, .u, .b false, .u, .u, .u, .u, .u, .obj id 0, .u, .obj j 0, .u, .u, .u, .u, .u, .u, .u, .u, .u, .u, .u, .u, .u, .u, .u, .u, .u, .u, .u, .u, .u, .u, .u, .u, .u, .u, .u, .u, .u, .u, .u, .u, .u, .u, .u, .u, .u, .u, .u, .u, .u, .u, .u, .u, .u, .u, .u, .u, .u, .u, .u, .u, .u, .u, .u, .u, .u, .u, .u, .u, .u, .u, .u, .u, .u, .u, .u, .u, .u, .u, .u, .u, .u, .u, .u, .u, .u, .u, .u, .u, .u, .sl (els vAc l), .z l.length, .z s.1, .u, .u, .u, .u, .u, .u, .u, .u, .u, .u, .u, .u, .u, .u, .u, .u, .u, .u, .u, .u, .u, .u, .u, .u, .u, .u, .u, .u, .u, .u, .u, .u, .u, .u, .u, .u, .u, .u, .u, .u, .u, .u, .u, .u, .u, .u, .u, .u, .u, .u, .u, .u, .u, .u, .u, .u, .u, .u, .u, .u, .u, .u, .u, .u, .u, .u, .u, .u, .u, .u, .u, .u, .u, .u, .u, .u, .u, .u, .u, .u, .u, .u, .u, .u], [], (om.put id s.2.2).put j (rcC s.2.1.ref)⟩,
        fun s => s.1 ≤ l.length ∧ cuOf id s.2.2 = some s.2.1 ∧ s.2.1.k = k ∧ s.2.1.n = n, fun s => l.length - s.1, ⟨(0, ⟨k, n, a, 0⟩, cs), ⟨Nat.zero_le _, hcs, rfl, rfl⟩, ?_⟩, ?_⟩
      · simp only [go_sem, kn1, kn2, kn3, kn4, kn5, kn6, kn7, kn8, kn9, kz1, kz2, kz3, kz4, kz5, kz6, kz7, kz8, kz9, kz0, reduceCtorEq, String.reduceEq, kn0, kq1, kq2, kq3, kq4, Int.toNat_natCast, rcC, Cu.ref, ad, am]
      · rintro ⟨i, ⟨k', n', r, m⟩, ds⟩ ⟨hi, hds, ek, en⟩
        obtain rfl : k = k' := ek.symm
        obtain rfl : n = n' := en.symm
        simp only at hi hds
        by_cases c : i < l.length
        · have c' : ((i : Int) < (l.length : Int)) = True := eq_true (by omega)
          obtain ⟨A, hA⟩ : ∃ A, l.getD i zAc = A := ⟨_, rfl⟩
          have wA : A.n < 340282366920938463463374607431768211456 := by
            rw [← hA, List.getD_eq_getElem?_getD, List.getElem?_eq_getElem c]; exact (hl _ (List.getElem_mem c)).1
          have fin : ∀ (c : Cu) (ds' : List V) (om' : Om), c.k = k → c.n = n → cuOf id ds' = some c → OmKept ((om.put id ds').put j (rcC c.ref)) om' → ∃ y : Nat × Cu × List V, (y.1 ≤ l.length ∧ cuOf id y.2.2 = some y.2.1 ∧ y.2.1.k = k ∧ y.2.1.n = n) ∧ ((i : Int) + 1 = (y.1 : Nat) ∧ OmKept ((om.put id y.2.2).put j (rcC y.2.1.ref)) om') ∧ l.length - y.1 < l.length - i := fun c ds' om' g1 g2 g3 g4 =>
            ⟨(i + 1, c, ds'), ⟨by show i + 1 ≤ _; omega, g3, g1, g2⟩, ⟨by show _ = ((i + 1 : Nat) : Int); omega, g4⟩, by show l.length - (i + 1) < _; omega⟩
          have ok1 := okR _ _ _ hds
          have rn := fun h => ref_next (k := k) (n := n) (r := r) (m := m) hk4 hn h
          have gw : gword (gjump (snew k n) r) = wAt k n r := rfl
          by_cases d0 : A.d = 0
          · have d0' := eq_true d0
            by_cases c2 : r < glim k
            · have c2' := eq_true c2
              have rn := rn c2
              obtain ⟨m1, hm1⟩ : ∃ m1, (Cu.next ⟨k, n, r, m⟩).m = m1 := ⟨_, rfl⟩
              rw [hm1] at rn
              simp (maxSteps := 10000000) only [go_sem, kn1, kn2, kn3, kn4, kn5, kn6, kn7, kn8, kn9, kz1, kz2, kz3, kz4, kz5, kz6, kz7, kz8, kz9, kz0, reduceCtorEq, String.reduceEq, kn0, kq1, kq2, kq3, kq4, Int.toNat_natCast, rcC, Cu.ref, c', eAc_get, hA, d0', hds, c2', n1, n2]
              refine ⟨by omega, fun ds1 h1 => ?_⟩
              replace h1 : cuOf id ds1 = some ⟨k, n, r + 1, m1⟩ := by rw [h1, ← hm1]; rfl
              have ok2 : RC.ok ⟨gjump (snew k n) (r + 1), r + 1, ((m1 : Nat) : Int), glim k⟩ = True := okR _ _ _ h1
              have bf : (⟨k, n, r + 1, m1⟩ : Cu).buf = swords (gjump (snew k n) (r + 1)) m1 := rfl
              simp (maxSteps := 10000000) only [go_sem, kn1, kn2, kn3, kn4, kn5, kn6, kn7, kn8, kn9, kz1, kz2, kz3, kz4, kz5, kz6, kz7, kz8, kz9, kz0, reduceCtorEq, String.reduceEq, kn0, kq1, kq2, kq3, kq4, Int.toNat_natCast, rcC, h1, rn, ok1, c2', gw, ok2, bf, n1, n2, Int.toNat_natCast, bne_self_eq_false, beq_self_eq_true, decide_true]
              repeat' (first | with_reducible refine And.intro ?_ ?_ | with_reducible intro _)
              all_goals first
                | omega
                | (refine fin ⟨k, n, r + 1, m1⟩ ds1 _ rfl rfl h1 ?_
                   intro x cs e
                   simp only [Om.put, Cu.ref] at e ⊢
                   by_cases e1 : x = id <;> by_cases e2 : x = j <;> simp_all [rcC])
            · have c2' := eq_false c2
              simp (maxSteps := 10000000) only [go_sem, kn1, kn2, kn3, kn4, kn5, kn6, kn7, kn8, kn9, kz1, kz2, kz3, kz4, kz5, kz6, kz7, kz8, kz9, kz0, reduceCtorEq, String.reduceEq, kn0, kq1, kq2, kq3, kq4, Int.toNat_natCast, rcC, Cu.ref, c', eAc_get, hA, d0', hds, c2', n1, n2]
              have ok2 : RC.ok ⟨gjump (snew k n) (r), r, ((m : Nat) : Int), glim k⟩ = True := okR _ _ _ hds
              have bf : (⟨k, n, r, m⟩ : Cu).buf = swords (gjump (snew k n) (r)) m := rfl
              simp (maxSteps := 10000000) only [go_sem, kn1, kn2, kn3, kn4, kn5, kn6, kn7, kn8, kn9, kz1, kz2, kz3, kz4, kz5, kz6, kz7, kz8, kz9, kz0, reduceCtorEq, String.reduceEq, kn0, kq1, kq2, kq3, kq4, Int.toNat_natCast, rcC, hds, ok1, c2', ok2, bf, n1, n2, Int.toNat_natCast, bne_self_eq_false, beq_self_eq_true, decide_true]
              repeat' (first | with_reducible refine And.intro ?_ ?_ | with_reducible intro _)
              all_goals first
                | omega
                | (refine fin ⟨k, n, r, m⟩ ds _ rfl rfl hds ?_
                   intro x cs e
                   simp only [Om.put, Cu.ref] at e ⊢
                   by_cases e1 : x = id <;> by_cases e2 : x = j <;> simp_all [rcC])
          · have d0' := eq_false d0
            by_cases d1 : A.d = 1
            · have d1' := eq_true d1
              by_cases cN : A.n ≤ 20
              · have dz : A.n / 18446744073709551616 = 0 := Nat.div_eq_of_lt (by omega)
                have dm : A.n % 18446744073709551616 = A.n := Nat.mod_eq_of_lt (by omega)
                have tl := tW_lit (l := A.n) (by omega)
                have c4 : (20 < A.n) = False := eq_false (by omega)
                have c5 : ((A.n : Int) ≤ 1000) = True := eq_true (by omega)
                have rs := ref_skip (k := k) (n := n) (r := r) (m := m) hk4 hn A.n
                by_cases c2 : r + A.n ≤ glim k
                · have c2' := eq_true c2
                  simp (maxSteps := 10000000) only [go_sem, kn1, kn2, kn3, kn4, kn5, kn6, kn7, kn8, kn9, kz1, kz2, kz3, kz4, kz5, kz6, kz7, kz8, kz9, kz0, reduceCtorEq, String.reduceEq, kn0, kq1, kq2, kq3, kq4, Int.toNat_natCast, rcC, Cu.ref, c', eAc_get, hA, d0', d1', hds, c2', dz, dm, tl, c4, n1, n2]
                  refine ⟨by omega, by omega, fun ds1 h1 => ?_⟩
                  replace h1 : cuOf id ds1 = some ⟨k, n, r + A.n, m - A.n⟩ := h1
                  have ok2 : RC.ok ⟨gjump (snew k n) (r + A.n), r + A.n, (((m - A.n) : Nat) : Int), glim k⟩ = True := okR _ _ _ h1
                  have bf : (⟨k, n, r + A.n, (m - A.n)⟩ : Cu).buf = swords (gjump (snew k n) (r + A.n)) (m - A.n) := rfl
                  simp (maxSteps := 10000000) only [go_sem, kn1, kn2, kn3, kn4, kn5, kn6, kn7, kn8, kn9, kz1, kz2, kz3, kz4, kz5, kz6, kz7, kz8, kz9, kz0, reduceCtorEq, String.reduceEq, kn0, kq1, kq2, kq3, kq4, Int.toNat_natCast, rcC, h1, rs, ok1, c2', dz, dm, tl, c4, c5, ok2, bf, n1, n2, Int.toNat_natCast, bne_self_eq_false, beq_self_eq_true, decide_true]
                  repeat' (first | with_reducible refine And.intro ?_ ?_ | with_reducible intro _)
                  all_goals first
                    | omega
                    | (refine fin ⟨k, n, r + A.n, (m - A.n)⟩ ds1 _ rfl rfl h1 ?_
                       intro x cs e
                       simp only [Om.put, Cu.ref] at e ⊢
                       by_cases e1 : x = id <;> by_cases e2 : x = j <;> simp_all [rcC])
                · have c2' := eq_false c2
                  simp (maxSteps := 10000000) only [go_sem, kn1, kn2, kn3, kn4, kn5, kn6, kn7, kn8, kn9, kz1, kz2, kz3, kz4, kz5, kz6, kz7, kz8, kz9, kz0, reduceCtorEq, String.reduceEq, kn0, kq1, kq2, kq3, kq4, Int.toNat_natCast, rcC, Cu.ref, c', eAc_get, hA, d0', d1', hds, c2', dz, dm, tl, c4, n1, n2]
                  have ok2 : RC.ok ⟨gjump (snew k n) (r), r, ((m : Nat) : Int), glim k⟩ = True := okR _ _ _ hds
                  have bf : (⟨k, n, r, m⟩ : Cu).buf = swords (gjump (snew k n) (r)) m := rfl
                  simp (maxSteps := 10000000) only [go_sem, kn1, kn2, kn3, kn4, kn5, kn6, kn7, kn8, kn9, kz1, kz2, kz3, kz4, kz5, kz6, kz7, kz8, kz9, kz0, reduceCtorEq, String.reduceEq, kn0, kq1, kq2, kq3, kq4, Int.toNat_natCast, rcC, hds, ok1, c2', dz, dm, tl, c4, c5, ok2, bf, n1, n2, Int.toNat_natCast, bne_self_eq_false, beq_self_eq_true, decide_true]
                  repeat' (first | with_reducible refine And.intro ?_ ?_ | with_reducible intro _)
                  all_goals first
                    | omega
                    | (refine fin ⟨k, n, r, m⟩ ds _ rfl rfl hds ?_
                       intro x cs e
                       simp only [Om.put, Cu.ref] at e ⊢
                       by_cases e1 : x = id <;> by_cases e2 : x = j <;> simp_all [rcC])
              · by_cases cH : A.n / 18446744073709551616 = 0
                · have dm : A.n % 18446744073709551616 = A.n := by omega
                  have c4 : (20 < A.n) = True := eq_true (by omega)
                  simp (maxSteps := 10000000) only [go_sem, kn1, kn2, kn3, kn4, kn5, kn6, kn7, kn8, kn9, kz1, kz2, kz3, kz4, kz5, kz6, kz7, kz8, kz9, kz0, reduceCtorEq, String.reduceEq, kn0, kq1, kq2, kq3, kq4, Int.toNat_natCast, rcC, Cu.ref, c', eAc_get, hA, d0', d1', hds, cH, dm, c4, n1, n2]
                  refine ⟨by omega, by omega, fin ⟨k, n, r, m⟩ ds _ rfl rfl hds ?_⟩
                  simp only [rcC, Cu.ref]; exact .refl _
                · have c4 : (0 < A.n / 18446744073709551616) = True := eq_true (by omega)
                  simp (maxSteps := 10000000) only [go_sem, kn1, kn2, kn3, kn4, kn5, kn6, kn7, kn8, kn9, kz1, kz2, kz3, kz4, kz5, kz6, kz7, kz8, kz9, kz0, reduceCtorEq, String.reduceEq, kn0, kq1, kq2, kq3, kq4, Int.toNat_natCast, rcC, Cu.ref, c', eAc_get, hA, d0', d1', hds, c4, n1, n2]
                  refine ⟨by omega, by omega, fin ⟨k, n, r, m⟩ ds _ rfl rfl hds ?_⟩
                  simp only [rcC, Cu.ref]; exact .refl _
            · have d1' := eq_false d1
              simp (maxSteps := 10000000) only [go_sem, kn1, kn2, kn3, kn4, kn5, kn6, kn7, kn8, kn9, kz1, kz2, kz3, kz4, kz5, kz6, kz7, kz8, kz9, kz0, reduceCtorEq, String.reduceEq, kn0, kq1, kq2, kq3, kq4, Int.toNat_natCast, rcC, Cu.ref, c', eAc_get, hA, d0', d1', hds, n1, n2]
              have ok2 : RC.ok ⟨gjump (snew k n) (r), r, ((m : Nat) : Int), glim k⟩ = True := okR _ _ _ hds
              have bf : (⟨k, n, r, m⟩ : Cu).buf = swords (gjump (snew k n) (r)) m := rfl
              simp (maxSteps := 10000000) only [go_sem, kn1, kn2, kn3, kn4, kn5, kn6, kn7, kn8, kn9, kz1, kz2, kz3, kz4, kz5, kz6, kz7, kz8, kz9, kz0, reduceCtorEq, String.reduceEq, kn0, kq1, kq2, kq3, kq4, Int.toNat_natCast, rcC, hds, ok1, ok2, bf, n1, n2, Int.toNat_natCast, bne_self_eq_false, beq_self_eq_true, decide_true]
              repeat' (first | with_reducible refine And.intro ?_ ?_ | with_reducible intro _)
              all_goals first
                | omega
                | (refine fin ⟨k, n, r, m⟩ ds _ rfl rfl hds ?_
                   intro x cs e
                   simp only [Om.put, Cu.ref] at e ⊢
                   by_cases e1 : x = id <;> by_cases e2 : x = j <;> simp_all [rcC])
        · have c' : ((i : Int) < (l.length : Int)) = False := eq_false (by omega)
          simp (maxSteps := 10000000) only [go_sem, kn1, kn2, kn3, kn4, kn5, kn6, kn7, kn8, kn9, kz1, kz2, kz3, kz4, kz5, kz6, kz7, kz8, kz9, kz0, reduceCtorEq, String.reduceEq, kn0, kq1, kq2, kq3, kq4, Int.toNat_natCast, rcC, Cu.ref, c', hds, n1, n2]
          exact fun _ _ => .put nj.2.2 (.put hid (.refl _))
    · have e0 : nerr k (glim k - a) = 0 := by rw [nerr_4 hk4, if_pos (by omega)]
      simp (maxSteps := 10000000) only [go_sem, Tryz.f3, kn1, kn2, kn3, kn4, kn5, kn6, kn7, kn8, kn9, kz1, kz2, kz3, kz4, kz5, kz6, kz7, kz8, kz9, kz0, reduceCtorEq, String.reduceEq, kn0, kq1, kq2, kq3, kq4, Int.toNat_natCast, c0', c1', hk4, am, ta, lim, es, e0]
      intros
      refine fun id hid cs hcs => ?_
      simp (maxSteps := 10000000) only [go_sem, kn1, kn2, kn3, kn4, kn5, kn6, kn7, kn8, kn9, kz1, kz2, kz3, kz4, kz5, kz6, kz7, kz8, kz9, kz0, reduceCtorEq, String.reduceEq, kn0, kq1, kq2, kq3, kq4, Int.toNat_natCast, lim, gj]
      refine ⟨by omega, fun _ _ j hj => ?_⟩
      have nj : ¬ j = id ∧ ¬ id = j ∧ om j = none := by simpa only [new_iff] using hj
      have n1 := eq_false nj.1
      have n2 := eq_false nj.2.1
      have ad : a / 18446744073709551616 = 0 := Nat.div_eq_of_lt (by omega)
      simp (maxSteps := 10000000) only [go_sem, kn1, kn2, kn3, kn4, kn5, kn6, kn7, kn8, kn9, kz1, kz2, kz3, kz4, kz5, kz6, kz7, kz8, kz9, kz0, reduceCtorEq, String.reduceEq, kn0, kq1, kq2, kq3, kq4, Int.toNat_natCast, rcC, hcs, n1, n2]
      intros
      have okR : ∀ r m (ds : List V), cuOf id ds = some ⟨k, n, r, m⟩ → RC.ok ⟨gjump (snew k n) r, r, (m : Nat), glim k⟩ = True := fun r m ds h => by
        obtain ⟨x2, w2, -, ok2, -⟩ := cuOf_inv h
        have q0 : r + m ≤ glim k := ok2.2.2.2
        have q8 : m ≤ 8 := ok2.2.2.1
        exact eq_true ⟨by show r ≤ glim k; omega, hgl, by show (0 : Int) ≤ (m : Nat); omega, by show ((m : Nat) : Int) ≤ 8; omega⟩
      refine ⟨Nat × Cu × List V, fun s => ⟨[.z k, .n .u64 n, .u, .u, .u, .u, .u, .u, .u, .u, .b false, .u, .u, .u, .u, .u, .obj id 0, .u, .obj j 0, .u, .u, .u, .u, .u, .u, .u, .u, .u, .u, .u, .u, .u, .u, .u, .u, .u, .u, .u, .u, .u, .u, .u, .u, .u, .u, .u, .u, .u, .u, .u, .u, .u, .u, .u, .u, .u, .u, .u, .u, .u, .u, .u, .u, .u, .u, .u, .u, .u, .u, .u, .u, .u, .u, .u, .u, .u, .u, .u, .u, .u, .u, .u, .u, .u, .u, .u, .u, .u, .u, .u, .u, .u, .u, .u, .u, .u, .u, .u, .u, .u, .sl (els vAc l), .z l.length, .z s.1, .u, .u, .u, .u, .u, .u, .u, .u, .u, .u, .u, .u, .u, .u, .u, .u, .u, .u, .u, .u, .u, .u, .u, .u, .u, .u, .u, .u, .u, .u, .u, .u, .u, .u, .u, .u, .u, .u, .u, .u, .u, .u, .u, .u, .u, .u, .u, .u, .u, .u, .u, .u, .u, .u, .u, .u, .u, .u, .u, .u, .u, .u, .u, .u, .u, .u, .u, .u, .u, .u, .u, .u, .u, .u, .u, .u, .u, .u, .u, .u, .u, .u, .u, .u], [], (om.put id s.2.2).put j (rcC s.2.1.ref)⟩,
        fun s => s.1 ≤ l.length ∧ cuOf id s.2.2 = some s.2.1 ∧ s.2.1.k = k ∧ s.2.1.n = n, fun s => l.length - s.1, ⟨(0, ⟨k, n, (glim k - a), 0⟩, cs), ⟨Nat.zero_le _, hcs, rfl, rfl⟩, ?_⟩, ?_⟩
      · simp only [go_sem, kn1, kn2, kn3, kn4, kn5, kn6, kn7, kn8, kn9, kz1, kz2, kz3, kz4, kz5, kz6, kz7, kz8, kz9, kz0, reduceCtorEq, String.reduceEq, kn0, kq1, kq2, kq3, kq4, Int.toNat_natCast, rcC, Cu.ref, ad, am]
      · rintro ⟨i, ⟨k', n', r, m⟩, ds⟩ ⟨hi, hds, ek, en⟩
        obtain rfl : k = k' := ek.symm
        obtain rfl : n = n' := en.symm
        simp only at hi hds
        by_cases c : i < l.length
        · have c' : ((i : Int) < (l.length : Int)) = True := eq_true (by omega)
          obtain ⟨A, hA⟩ : ∃ A, l.getD i zAc = A := ⟨_, rfl⟩
          have wA : A.n < 340282366920938463463374607431768211456 := by
            rw [← hA, List.getD_eq_getElem?_getD, List.getElem?_eq_getElem c]; exact (hl _ (List.getElem_mem c)).1
          have fin : ∀ (c : Cu) (ds' : List V) (om' : Om), c.k = k → c.n = n → cuOf id ds' = some c → OmKept ((om.put id ds').put j (rcC c.ref)) om' → ∃ y : Nat × Cu × List V, (y.1 ≤ l.length ∧ cuOf id y.2.2 = some y.2.1 ∧ y.2.1.k = k ∧ y.2.1.n = n) ∧ ((i : Int) + 1 = (y.1 : Nat) ∧ OmKept ((om.put id y.2.2).put j (rcC y.2.1.ref)) om') ∧ l.length - y.1 < l.length - i := fun c ds' om' g1 g2 g3 g4 =>
            ⟨(i + 1, c, ds'), ⟨by show i + 1 ≤ _; omega, g3, g1, g2⟩, ⟨by show _ = ((i + 1 : Nat) : Int); omega, g4⟩, by show l.length - (i + 1) < _; omega⟩
          have ok1 := okR _ _ _ hds
          have rn := fun h => ref_next (k := k) (n := n) (r := r) (m := m) hk4 hn h
          have gw : gword (gjump (snew k n) r) = wAt k n r := rfl
          by_cases d0 : A.d = 0
          · have d0' := eq_true d0
            by_cases c2 : r < glim k
            · have c2' := eq_true c2
              have rn := rn c2
              obtain ⟨m1, hm1⟩ : ∃ m1, (Cu.next ⟨k, n, r, m⟩).m = m1 := ⟨_, rfl⟩
              rw [hm1] at rn
              simp (maxSteps := 10000000) only [go_sem, kn1, kn2, kn3, kn4, kn5, kn6, kn7, kn8, kn9, kz1, kz2, kz3, kz4, kz5, kz6, kz7, kz8, kz9, kz0, reduceCtorEq, String.reduceEq, kn0, kq1, kq2, kq3, kq4, Int.toNat_natCast, rcC, Cu.ref, c', eAc_get, hA, d0', hds, c2', n1, n2]
              refine ⟨by omega, fun ds1 h1 => ?_⟩
              replace h1 : cuOf id ds1 = some ⟨k, n, r + 1, m1⟩ := by rw [h1, ← hm1]; rfl
              have ok2 : RC.ok ⟨gjump (snew k n) (r + 1), r + 1, ((m1 : Nat) : Int), glim k⟩ = True := okR _ _ _ h1
              have bf : (⟨k, n, r + 1, m1⟩ : Cu).buf = swords (gjump (snew k n) (r + 1)) m1 := rfl
              simp (maxSteps := 10000000) only [go_sem, kn1, kn2, kn3, kn4, kn5, kn6, kn7, kn8, kn9, kz1, kz2, kz3, kz4, kz5, kz6, kz7, kz8, kz9, kz0, reduceCtorEq, String.reduceEq, kn0, kq1, kq2, kq3, kq4, Int.toNat_natCast, rcC, h1, rn, ok1, c2', gw, ok2, bf, n1, n2, Int.toNat_natCast, bne_self_eq_false, beq_self_eq_true, decide_true]
              repeat' (first | with_reducible refine And.intro ?_ ?_ | with_reducible intro _)
              all_goals first
                | omega
                | (refine fin ⟨k, n, r + 1, m1⟩ ds1 _ rfl rfl h1 ?_
                   intro x cs e
                   simp only [Om.put, Cu.ref] at e ⊢
                   by_cases e1 : x = id <;> by_cases e2 : x = j <;> simp_all [rcC])
            · have c2' := eq_false c2
              simp (maxSteps := 10000000) only [go_sem, kn1, kn2, kn3, kn4, kn5, kn6, kn7, kn8, kn9, kz1, kz2, kz3, kz4, kz5, kz6, kz7, kz8, kz9, kz0, reduceCtorEq, String.reduceEq, kn0, kq1, kq2, kq3, kq4, Int.toNat_natCast, rcC, Cu.ref, c', eAc_get, hA, d0', hds, c2', n1, n2]
              have ok2 : RC.ok ⟨gjump (snew k n) (r), r, ((m : Nat) : Int), glim k⟩ = True := okR _ _ _ hds
              have bf : (⟨k, n, r, m⟩ : Cu).buf = swords (gjump (snew k n) (r)) m := rfl
              simp (maxSteps := 10000000) only [go_sem, kn1, kn2, kn3, kn4, kn5, kn6, kn7, kn8, kn9, kz1, kz2, kz3, kz4, kz5, kz6, kz7, kz8, kz9, kz0, reduceCtorEq, String.reduceEq, kn0, kq1, kq2, kq3, kq4, Int.toNat_natCast, rcC, hds, ok1, c2', ok2, bf, n1, n2, Int.toNat_natCast, bne_self_eq_false, beq_self_eq_true, decide_true]
              repeat' (first | with_reducible refine And.intro ?_ ?_ | with_reducible intro _)
              all_goals first
                | omega
                | (refine fin ⟨k, n, r, m⟩ ds _ rfl rfl hds ?_
                   intro x cs e
                   simp only [Om.put, Cu.ref] at e ⊢
                   by_cases e1 : x = id <;> by_cases e2 : x = j <;> simp_all [rcC])
          · have d0' := eq_false d0
            by_cases d1 : A.d = 1
            · have d1' := eq_true d1
              by_cases cN : A.n ≤ 20
              · have dz : A.n / 18446744073709551616 = 0 := Nat.div_eq_of_lt (by omega)
                have dm : A.n % 18446744073709551616 = A.n := Nat.mod_eq_of_lt (by omega)
                have tl := tW_lit (l := A.n) (by omega)
                have c4 : (20 < A.n) = False := eq_false (by omega)
                have c5 : ((A.n : Int) ≤ 1000) = True := eq_true (by omega)
                have rs := ref_skip (k := k) (n := n) (r := r) (m := m) hk4 hn A.n
                by_cases c2 : r + A.n ≤ glim k
                · have c2' := eq_true c2
                  simp (maxSteps := 10000000) only [go_sem, kn1, kn2, kn3, kn4, kn5, kn6, kn7, kn8, kn9, kz1, kz2, kz3, kz4, kz5, kz6, kz7, kz8, kz9, kz0, reduceCtorEq, String.reduceEq, kn0, kq1, kq2, kq3, kq4, Int.toNat_natCast, rcC, Cu.ref, c', eAc_get, hA, d0', d1', hds, c2', dz, dm, tl, c4, n1, n2]
                  refine ⟨by omega, by omega, fun ds1 h1 => ?_⟩
                  replace h1 : cuOf id ds1 = some ⟨k, n, r + A.n, m - A.n⟩ := h1
                  have ok2 : RC.ok ⟨gjump (snew k n) (r + A.n), r + A.n, (((m - A.n) : Nat) : Int), glim k⟩ = True := okR _ _ _ h1
                  have bf : (⟨k, n, r + A.n, (m - A.n)⟩ : Cu).buf = swords (gjump (snew k n) (r + A.n)) (m - A.n) := rfl
                  simp (maxSteps := 10000000) only [go_sem, kn1, kn2, kn3, kn4, kn5, kn6, kn7, kn8, kn9, kz1, kz2, kz3, kz4, kz5, kz6, kz7, kz8, kz9, kz0, reduceCtorEq, String.reduceEq, kn0, kq1, kq2, kq3, kq4, Int.toNat_natCast, rcC, h1, rs, ok1, c2', dz, dm, tl, c4, c5, ok2, bf, n1, n2, Int.toNat_natCast, bne_self_eq_false, beq_self_eq_true, decide_true]
                  repeat' (first | with_reducible refine And.intro ?_ ?_ | with_reducible intro _)
                  all_goals first
                    | omega
                    | (refine fin ⟨k, n, r + A.n, (m - A.n)⟩ ds1 _ rfl rfl h1 ?_
                       intro x cs e
                       simp only [Om.put, Cu.ref] at e ⊢
                       by_cases e1 : x = id <;> by_cases e2 : x = j <;> simp_all [rcC])
                · have c2' := eq_false c2
                  simp (maxSteps := 10000000) only [go_sem, kn1, kn2, kn3, kn4, kn5, kn6, kn7, kn8, kn9, kz1, kz2, kz3, kz4, kz5, kz6, kz7, kz8, kz9, kz0, reduceCtorEq, String.reduceEq, kn0, kq1, kq2, kq3, kq4, Int.toNat_natCast, rcC, Cu.ref, c', eAc_get, hA, d0', d1', hds, c2', dz, dm, tl, c4, n1, n2]
                  have ok2 : RC.ok ⟨gjump (snew k n) (r), r, ((m : Nat) : Int), glim k⟩ = True := okR _ _ _ hds
                  have bf : (⟨k, n, r, m⟩ : Cu).buf = swords (gjump (snew k n) (r)) m := rfl
                  simp (maxSteps := 10000000) only [go_sem, kn1, kn2, kn3, kn4, kn5, kn6, kn7, kn8, kn9, kz1, kz2, kz3, kz4, kz5, kz6, kz7, kz8, kz9, kz0, reduceCtorEq, String.reduceEq, kn0, kq1, kq2, kq3, kq4, Int.toNat_natCast, rcC, hds, ok1, c2', dz, dm, tl, c4, c5, ok2, bf, n1, n2, Int.toNat_natCast, bne_self_eq_false, beq_self_eq_true, decide_true]
                  repeat' (first | with_reducible refine And.intro ?_ ?_ | with_reducible intro _)
                  all_goals first
                    | omega
                    | (refine fin ⟨k, n, r, m⟩ ds _ rfl rfl hds ?_
                       intro x cs e
                       simp only [Om.put, Cu.ref] at e ⊢
                       by_cases e1 : x = id <;> by_cases e2 : x = j <;> simp_all [rcC])
              · by_cases cH : A.n / 18446744073709551616 = 0
                · have dm : A.n % 18446744073709551616 = A.n := by omega
                  have c4 : (20 < A.n) = True := eq_true (by omega)
                  simp (maxSteps := 10000000) only [go_sem, kn1, kn2, kn3, kn4, kn5, kn6, kn7, kn8, kn9, kz1, kz2, kz3, kz4, kz5, kz6, kz7, kz8, kz9, kz0, reduceCtorEq, String.reduceEq, kn0, kq1, kq2, kq3, kq4, Int.toNat_natCast, rcC, Cu.ref, c', eAc_get, hA, d0', d1', hds, cH, dm, c4, n1, n2]
                  refine ⟨by omega, by omega, fin ⟨k, n, r, m⟩ ds _ rfl rfl hds ?_⟩
                  simp only [rcC, Cu.ref]; exact .refl _
                · have c4 : (0 < A.n / 18446744073709551616) = True := eq_true (by omega)
                  simp (maxSteps := 10000000) only [go_sem, kn1, kn2, kn3, kn4, kn5, kn6, kn7, kn8, kn9, kz1, kz2, kz3, kz4, kz5, kz6, kz7, kz8, kz9, kz0, reduceCtorEq, String.reduceEq, kn0, kq1, kq2, kq3, kq4, Int.toNat_natCast, rcC, Cu.ref, c', eAc_get, hA, d0', d1', hds, c4, n1, n2]
                  refine ⟨by omega, by omega, fin ⟨k, n, r, m⟩ ds _ rfl rfl hds ?_⟩
                  simp only [rcC, Cu.ref]; exact .refl _
            · have d1' := eq_false d1
              simp (maxSteps := 10000000) only [go_sem, kn1, kn2, kn3, kn4, kn5, kn6, kn7, kn8, kn9, kz1, kz2, kz3, kz4, kz5, kz6, kz7, kz8, kz9, kz0, reduceCtorEq, String.reduceEq, kn0, kq1, kq2, kq3, kq4, Int.toNat_natCast, rcC, Cu.ref, c', eAc_get, hA, d0', d1', hds, n1, n2]
              have ok2 : RC.ok ⟨gjump (snew k n) (r), r, ((m : Nat) : Int), glim k⟩ = True := okR _ _ _ hds
              have bf : (⟨k, n, r, m⟩ : Cu).buf = swords (gjump (snew k n) (r)) m := rfl
              simp (maxSteps := 10000000) only [go_sem, kn1, kn2, kn3, kn4, kn5, kn6, kn7, kn8, kn9, kz1, kz2, kz3, kz4, kz5, kz6, kz7, kz8, kz9, kz0, reduceCtorEq, String.reduceEq, kn0, kq1, kq2, kq3, kq4, Int.toNat_natCast, rcC, hds, ok1, ok2, bf, n1, n2, Int.toNat_natCast, bne_self_eq_false, beq_self_eq_true, decide_true]
              repeat' (first | with_reducible refine And.intro ?_ ?_ | with_reducible intro _)
              all_goals first
                | omega
                | (refine fin ⟨k, n, r, m⟩ ds _ rfl rfl hds ?_
                   intro x cs e
                   simp only [Om.put, Cu.ref] at e ⊢
                   by_cases e1 : x = id <;> by_cases e2 : x = j <;> simp_all [rcC])
        · have c' : ((i : Int) < (l.length : Int)) = False := eq_false (by omega)
          simp (maxSteps := 10000000) only [go_sem, kn1, kn2, kn3, kn4, kn5, kn6, kn7, kn8, kn9, kz1, kz2, kz3, kz4, kz5, kz6, kz7, kz8, kz9, kz0, reduceCtorEq, String.reduceEq, kn0, kq1, kq2, kq3, kq4, Int.toNat_natCast, rcC, Cu.ref, c', hds, n1, n2]
          exact fun _ _ => .put nj.2.2 (.put hid (.refl _))
  · have hk' := eq_false hk4
    have e2 : nerr k a = 2 := if_neg hk4
    have ta' := tW_decm am
    simp (maxSteps := 10000000) only [go_sem, Tryz.f3, kn1, kn2, kn3, kn4, kn5, kn6, kn7, kn8, kn9, kz1, kz2, kz3, kz4, kz5, kz6, kz7, kz8, kz9, kz0, reduceCtorEq, String.reduceEq, kn0, kq1, kq2, kq3, kq4, Int.toNat_natCast, c0', c1', hk', am, ta', e2]
end Go.Proofs.YteomkgcepiecjaaGreat.I
