/- The reference of layer 13: Take. -/
import Derived.Test.YtggpbjhmpipplaaGreatRef13c
import Derived.Test.YtggpbjhmpipplaaGreatGenB
namespace Go.Proofs.YtggpbjhmpipplaaGreat.I
open Go
open Nat renaming reduceEqDiff → kn1, reduceBEq → kn2, reducePow → kn3, reduceMod → kn4, reduceAdd → kn5, reduceSub → kn6, reduceMul → kn7, reduceDiv → kn8, reduceLeDiff → kn9, reduceLT → kn0, zero_lt_one → kq1, zero_add → kq2, zero_le → kq3, le_refl → kq4
open Int renaming reduceToNat → kz1, reduceAdd → kz2, reduceSub → kz3, reduceMul → kz4, reduceDiv → kz5, reduceMod → kz6, reduceLE → kz7, reduceLT → kz8, reduceNeg → kz9, reduceEq → kz0
set_option maxRecDepth 10000
set_option linter.unusedSimpArgs false
set_option linter.unusedVariables false

@[go_sem] noncomputable def c_ref13_Take : Cn := fn1 tY8 (fun _ => True) fun b => .tup [vG (gtake b).1, .z (gtake b).2.1, .z (gtake b).2.2]
noncomputable def cx_ref13_Take : Cx := { T := T, E := E, cs := [(29, c_ref13_Check), (58, c_ref13_word), (59, c_ref01_Take)], sch := [(21, false, .take 0 (.take 1 (.take 4 (.take 5 (.alt 2 (.take 3 (.alt 6 (.take 7 (.take 8 (.take 9 (.take 10 (.alt 11 (.done) .no))))) .no)) .no)))))], ob := [], qs := [29, 58, 59] }
@[go_sem] theorem cx_ref13_Take_e : cx_ref13_Take.gs = none ∧ cx_ref13_Take.md = 0 ∧ cx_ref13_Take.T = T ∧ cx_ref13_Take.E = E ∧ cx_ref13_Take.cs = [(29, c_ref13_Check), (58, c_ref13_word), (59, c_ref01_Take)] ∧ cx_ref13_Take.sch = [(21, false, .take 0 (.take 1 (.take 4 (.take 5 (.alt 2 (.take 3 (.alt 6 (.take 7 (.take 8 (.take 9 (.take 10 (.alt 11 (.done) .no))))) .no)) .no)))))] ∧ ∀ d, (cx_ref13_Take.ob).contains d = false := ⟨rfl, rfl, rfl, rfl, rfl, rfl, fun _ => rfl⟩
theorem cok_ref13_Take : COk Tryz.prog (cx_ref13_Take) := cok_of rfl (.cons ok_ref13_Check (.cons ok_ref13_word (.cons ok_ref01_Take (.nil)))) (.cons (fun _ => fn1_quiet) (.cons (fun _ => fn1_quiet) (.cons (fun _ => fn1i_quiet) (.nil)))) (.nil)
set_option maxHeartbeats 8000000 in
theorem ok_ref13_Take : Ok Tryz.prog 39 c_ref13_Take := by
  refine ok_fn1 cok_ref13_Take mixed Tryz.func39 rfl (by kernel_rfl) (by kernel_rfl) rfl ?_
  intro b om hw _
  have hbl := (wf_8 hw).1
  have hbb := (wf_8 hw).2
  cases b with
  | nil => simp only [go_sem, Tryz.f39, kn1, kn2, kn3, kn4, kn5, kn6, kn7, kn8, kn9, kz1, kz2, kz3, kz4, kz5, kz6, kz7, kz8, kz9, kz0, reduceCtorEq, String.reduceEq, kn0, kq1, kq2, kq3, kq4, Int.toNat_natCast, gtake, gz, x0, d0, h0, k0]
  | cons k l =>
    rw [List.length_cons] at hbl
    have hb : ∀ x ∈ l, x < 256 := fun x hx => hbb x (List.mem_cons_of_mem _ hx)
    by_cases hk : 1 ≤ k ∧ k ≤ 4
    · have e0 : (((l.length + 1 : Nat) : Int) = 0) = False := eq_false (by omega)
      obtain rfl | rfl | rfl | rfl : k = 1 ∨ k = 2 ∨ k = 3 ∨ k = 4 := by omega
      · by_cases hl : l.length < 8
        · have e : gtake (1 :: l) = (gz, 0, 11) := by simp [gtake, gsize, hl]
          have e1 : (((l.length + 1 : Nat) : Int) < 9) = True := eq_true (by omega)
          simp only [go_sem, Tryz.f39, kn1, kn2, kn3, kn4, kn5, kn6, kn7, kn8, kn9, kz1, kz2, kz3, kz4, kz5, kz6, kz7, kz8, kz9, kz0, reduceCtorEq, String.reduceEq, kn0, kq1, kq2, kq3, kq4, Int.toNat_natCast, e, e0, e1, gz, x0, d0, h0, k0]
          exact by omega
        · have e1 : (((l.length + 1 : Nat) : Int) < 9) = False := eq_false (by omega)
          have q1 : (l.take 8).length = 8 := by simp; omega
          simp only [go_sem, Tryz.f39, kn1, kn2, kn3, kn4, kn5, kn6, kn7, kn8, kn9, kz1, kz2, kz3, kz4, kz5, kz6, kz7, kz8, kz9, kz0, reduceCtorEq, String.reduceEq, kn0, kq1, kq2, kq3, kq4, Int.toNat_natCast, e0, e1, q1]
          refine ⟨by omega, by omega, by omega, by omega, by omega, by omega, fun _ => ⟨Unit, fun _ => ⟨[.sl (els (V.n .u8) (1 :: l)), .u, .ref 2 1 15 0 0, .z 0, .z 0, .z 8, .ref 6 1 15 0 0, .sl (els (V.n .u8) (l.take 8)), .z 0, .u, .u, .u, .u, .u, .u, .u, .u, .u, .u, .u, .u, .u, .u, .u, .u, .u, .u, .u, .u, .u, .u, .u, .u, .u, .u, .u, .u, .u, .u, .u, .u, .u, .u, .u, .u, .u, .u, .u, .u, .u, .u, .u, .u, .u, .u, .u, .u, .u, .u, .u, .u, .u, .u, .u, .u, .u, .u, .u, .u, .u, .u, .u, .u, .u, .u, .u, .u, .u, .u, .u, .u, .u, .u, .u, .u, .u, .u, .u, .u, .u, .u, .u, .u, .u, .u, .u, .u, .u, .u, .u, .u, .u, .u, .u, .u, .u, .u, .u, .u, .u, .u, .u, .u, .u, .u, .u, .u, .u, .u, .u, .u, .u, .u, .u, .u, .u, .u, .u, .u, .u, .u, .u, .u, .u, .u, .u, .u, .u, .u, .u], [(6, ⟨15, true, [vG (g1 (ofb (l.take 8)))], false⟩), (2, ⟨15, true, [vG gz], false⟩)], om⟩, fun _ => True, fun _ => 0, ⟨(), trivial, ?_⟩, ?_⟩⟩
          · simp only [go_sem, kn1, kn2, kn3, kn4, kn5, kn6, kn7, kn8, kn9, kz1, kz2, kz3, kz4, kz5, kz6, kz7, kz8, kz9, kz0, reduceCtorEq, String.reduceEq, kn0, kq1, kq2, kq3, kq4, Int.toNat_natCast, gz, x0, d0, h0, k0, g1]
          · intro _ _
            by_cases hg : gok (g1 (ofb (l.take 8)))
            · have e : gtake (1 :: l) = (g1 (ofb (l.take 8)), 9, 0) := by
                rw [gtake_long (by omega) hl (by omega), if_pos (show  gok (gread 1 (l.take (gsize 1))) from hg)]; rfl
              have hz := gchk_ok hg
              simp only [g1, x0, d0, h0, k0] at hz
              simp only [go_sem, kn1, kn2, kn3, kn4, kn5, kn6, kn7, kn8, kn9, kz1, kz2, kz3, kz4, kz5, kz6, kz7, kz8, kz9, kz0, reduceCtorEq, String.reduceEq, kn0, kq1, kq2, kq3, kq4, Int.toNat_natCast, e, hz, g1, tG_1, x0, d0, h0, k0]
            · have e : gtake (1 :: l) = (gz, 0, gchk (g1 (ofb (l.take 8)))) := by
                rw [gtake_long (by omega) hl (by omega), if_neg (show ¬ gok (gread 1 (l.take (gsize 1))) from hg)]; rfl
              have hz : (gchk (g1 (ofb (l.take 8))) = 0) = False := eq_false (gchk_no hg)
              simp only [g1, x0, d0, h0, k0] at hz
              simp only [go_sem, kn1, kn2, kn3, kn4, kn5, kn6, kn7, kn8, kn9, kz1, kz2, kz3, kz4, kz5, kz6, kz7, kz8, kz9, kz0, reduceCtorEq, String.reduceEq, kn0, kq1, kq2, kq3, kq4, Int.toNat_natCast, e, hz, gz, g1, tG_1, x0, d0, h0, k0]
      · by_cases hl : l.length < 32
        · have e : gtake (2 :: l) = (gz, 0, 11) := by simp [gtake, gsize, hl]
          have e1 : (((l.length + 1 : Nat) : Int) < 33) = True := eq_true (by omega)
          simp only [go_sem, Tryz.f39, kn1, kn2, kn3, kn4, kn5, kn6, kn7, kn8, kn9, kz1, kz2, kz3, kz4, kz5, kz6, kz7, kz8, kz9, kz0, reduceCtorEq, String.reduceEq, kn0, kq1, kq2, kq3, kq4, Int.toNat_natCast, e, e0, e1, gz, x0, d0, h0, k0]
          exact by omega
        · have e1 : (((l.length + 1 : Nat) : Int) < 33) = False := eq_false (by omega)
          have q1 : (l.take 32).length = 32 := by simp; omega
          simp only [go_sem, Tryz.f39, kn1, kn2, kn3, kn4, kn5, kn6, kn7, kn8, kn9, kz1, kz2, kz3, kz4, kz5, kz6, kz7, kz8, kz9, kz0, reduceCtorEq, String.reduceEq, kn0, kq1, kq2, kq3, kq4, Int.toNat_natCast, e0, e1, q1]
          refine ⟨by omega, by omega, by omega, by omega, by omega, by omega, Nat, fun k => ⟨[.sl (els (V.n .u8) (2 :: l)), .u, .ref 2 1 15 0 0, .z 0, .z 0, .z 32, .ref 6 1 15 0 0, .sl (els (V.n .u8) (l.take 32)), .z k, .u, .u, .u, .u, .u, .u, .u, .u, .u, .u, .u, .u, .u, .u, .u, .u, .u, .u, .u, .u, .u, .u, .u, .u, .u, .u, .u, .u, .u, .u, .u, .u, .u, .u, .u, .u, .u, .u, .u, .u, .u, .u, .u, .u, .u, .u, .u, .u, .u, .u, .u, .u, .u, .u, .u, .u, .u, .u, .u, .u, .u, .u, .u, .u, .u, .u, .u, .u, .u, .u, .u, .u, .u, .u, .u, .u, .u, .u, .u, .u, .u, .u, .u, .u, .u, .u, .u, .u, .u, .u, .u, .u, .u, .u, .u, .u, .u, .u, .u, .u, .u, .u, .u, .u, .u, .u, .u, .u, .u, .u, .u, .u, .u, .u, .u, .u, .u, .u, .u, .u, .u, .u, .u, .u, .u, .u, .u, .u, .u, .u, .u], [(6, ⟨15, true, [vG (g2 (xtk (l.take 32) k))], false⟩), (2, ⟨15, true, [vG gz], false⟩)], om⟩, fun k => k ≤ 4, fun k => 4 - k, ⟨0, by omega, ?_⟩, ?_⟩
          · simp only [go_sem, kn1, kn2, kn3, kn4, kn5, kn6, kn7, kn8, kn9, kz1, kz2, kz3, kz4, kz5, kz6, kz7, kz8, kz9, kz0, reduceCtorEq, String.reduceEq, kn0, kq1, kq2, kq3, kq4, Int.toNat_natCast, gz, x0, d0, h0, k0, g2, xtk_0]
          · intro k hk
            obtain rfl | rfl | rfl | rfl | rfl : k = 0 ∨ k = 1 ∨ k = 2 ∨ k = 3 ∨ k = 4 := by omega
            · simp only [go_sem, kn1, kn2, kn3, kn4, kn5, kn6, kn7, kn8, kn9, kz1, kz2, kz3, kz4, kz5, kz6, kz7, kz8, kz9, kz0, reduceCtorEq, String.reduceEq, kn0, kq1, kq2, kq3, kq4, Int.toNat_natCast, q1, g2, xtk_0, x0, d0, h0, k0]
              exact ⟨by simp; omega, fun _ => ⟨1, by omega, ⟨by omega, by simp only [xtk_1, sb, List.drop_zero, and_self]⟩, by omega⟩⟩
            · simp only [go_sem, kn1, kn2, kn3, kn4, kn5, kn6, kn7, kn8, kn9, kz1, kz2, kz3, kz4, kz5, kz6, kz7, kz8, kz9, kz0, reduceCtorEq, String.reduceEq, kn0, kq1, kq2, kq3, kq4, Int.toNat_natCast, q1, g2, xtk_1, x0, d0, h0, k0]
              exact ⟨by simp; omega, fun _ => ⟨2, by omega, ⟨by omega, by simp only [xtk_2, sb, List.drop_zero, and_self]⟩, by omega⟩⟩
            · simp only [go_sem, kn1, kn2, kn3, kn4, kn5, kn6, kn7, kn8, kn9, kz1, kz2, kz3, kz4, kz5, kz6, kz7, kz8, kz9, kz0, reduceCtorEq, String.reduceEq, kn0, kq1, kq2, kq3, kq4, Int.toNat_natCast, q1, g2, xtk_2, x0, d0, h0, k0]
              exact ⟨by simp; omega, fun _ => ⟨3, by omega, ⟨by omega, by simp only [xtk_3, sb, List.drop_zero, and_self]⟩, by omega⟩⟩
            · simp only [go_sem, kn1, kn2, kn3, kn4, kn5, kn6, kn7, kn8, kn9, kz1, kz2, kz3, kz4, kz5, kz6, kz7, kz8, kz9, kz0, reduceCtorEq, String.reduceEq, kn0, kq1, kq2, kq3, kq4, Int.toNat_natCast, q1, g2, xtk_3, x0, d0, h0, k0]
              exact ⟨by simp; omega, fun _ => ⟨4, by omega, ⟨by omega, by simp only [xtk_4, xtake, sb, List.drop_zero, and_self]⟩, by omega⟩⟩
            · have e4 : xtk (l.take 32) 4 = xtake (l.take 32) := rfl
              by_cases hg : gok (g2 (xtake (l.take 32)))
              · have e : gtake (2 :: l) = (g2 (xtake (l.take 32)), 33, 0) := by
                  rw [gtake_long (by omega) hl (by omega), if_pos (show  gok (gread 2 (l.take (gsize 2))) from hg)]; rfl
                have hz := gchk_ok hg
                generalize xtake (l.take 32) = x at *
                obtain ⟨a, b, c, d⟩ := x
                simp only [g2, x0, d0, h0, k0] at hz
                simp only [go_sem, kn1, kn2, kn3, kn4, kn5, kn6, kn7, kn8, kn9, kz1, kz2, kz3, kz4, kz5, kz6, kz7, kz8, kz9, kz0, reduceCtorEq, String.reduceEq, kn0, kq1, kq2, kq3, kq4, Int.toNat_natCast, e, hz, e4, g2, tG_2, x0, d0, h0, k0]
              · have e : gtake (2 :: l) = (gz, 0, gchk (g2 (xtake (l.take 32)))) := by
                  rw [gtake_long (by omega) hl (by omega), if_neg (show ¬ gok (gread 2 (l.take (gsize 2))) from hg)]; rfl
                have hz : (gchk (g2 (xtake (l.take 32))) = 0) = False := eq_false (gchk_no hg)
                generalize xtake (l.take 32) = x at *
                obtain ⟨a, b, c, d⟩ := x
                simp only [g2, x0, d0, h0, k0] at hz
                simp only [go_sem, kn1, kn2, kn3, kn4, kn5, kn6, kn7, kn8, kn9, kz1, kz2, kz3, kz4, kz5, kz6, kz7, kz8, kz9, kz0, reduceCtorEq, String.reduceEq, kn0, kq1, kq2, kq3, kq4, Int.toNat_natCast, e, hz, e4, gz, g2, tG_2, x0, d0, h0, k0]
      · by_cases hl : l.length < 32
        · have e : gtake (3 :: l) = (gz, 0, 11) := by simp [gtake, gsize, hl]
          have e1 : (((l.length + 1 : Nat) : Int) < 33) = True := eq_true (by omega)
          simp only [go_sem, Tryz.f39, kn1, kn2, kn3, kn4, kn5, kn6, kn7, kn8, kn9, kz1, kz2, kz3, kz4, kz5, kz6, kz7, kz8, kz9, kz0, reduceCtorEq, String.reduceEq, kn0, kq1, kq2, kq3, kq4, Int.toNat_natCast, e, e0, e1, gz, x0, d0, h0, k0]
          exact by omega
        · have e1 : (((l.length + 1 : Nat) : Int) < 33) = False := eq_false (by omega)
          have q1 : (l.take 32).length = 32 := by simp; omega
          simp only [go_sem, Tryz.f39, kn1, kn2, kn3, kn4, kn5, kn6, kn7, kn8, kn9, kz1, kz2, kz3, kz4, kz5, kz6, kz7, kz8, kz9, kz0, reduceCtorEq, String.reduceEq, kn0, kq1, kq2, kq3, kq4, Int.toNat_natCast, e0, e1, q1]
          refine ⟨by omega, by omega, by omega, by omega, by omega, by omega, Unit, fun _ => ⟨[.sl (els (V.n .u8) (3 :: l)), .u, .ref 2 1 15 0 0, .z 0, .z 0, .z 32, .ref 6 1 15 0 0, .sl (els (V.n .u8) (l.take 32)), .z 0, .u, .u, .u, .u, .u, .u, .u, .u, .u, .u, .u, .u, .u, .u, .u, .u, .u, .u, .u, .u, .u, .u, .u, .u, .u, .u, .u, .u, .u, .u, .u, .u, .u, .u, .u, .u, .u, .u, .u, .u, .u, .u, .u, .u, .u, .u, .u, .u, .u, .u, .u, .u, .u, .u, .u, .u, .u, .u, .u, .u, .u, .u, .u, .u, .u, .u, .u, .u, .u, .u, .u, .u, .u, .u, .u, .u, .u, .u, .u, .u, .u, .u, .u, .u, .u, .u, .u, .u, .u, .u, .u, .u, .u, .u, .u, .u, .u, .u, .u, .u, .u, .u, .u, .u, .u, .u, .u, .u, .u, .u, .u, .u, .u, .u, .u, .u, .u, .u, .u, .u, .u, .u, .u, .u, .u, .u, .u, .u, .u, .u, .u], [(6, ⟨15, true, [vG ⟨3, 0, x0, d0, h0⟩], false⟩), (2, ⟨15, true, [vG gz], false⟩)], om⟩, fun _ => True, fun _ => 0, ⟨(), trivial, ?_⟩, ?_⟩
          · simp only [go_sem, kn1, kn2, kn3, kn4, kn5, kn6, kn7, kn8, kn9, kz1, kz2, kz3, kz4, kz5, kz6, kz7, kz8, kz9, kz0, reduceCtorEq, String.reduceEq, kn0, kq1, kq2, kq3, kq4, Int.toNat_natCast, gz, x0, d0, h0, k0, g1]
          · intro _ _
            have l1 : ((l.take 32).take 16).length = 16 := by simp; omega
            have l2 : ((l.take 32).drop 16).length = 16 := by simp; omega
            by_cases hg : gok (g3 ⟨ofb ((l.take 32).take 16), ofb ((l.take 32).drop 16)⟩)
            · have e : gtake (3 :: l) = (g3 ⟨ofb ((l.take 32).take 16), ofb ((l.take 32).drop 16)⟩, 33, 0) := by
                rw [gtake_long (by omega) hl (by omega), if_pos (show  gok (gread 3 (l.take (gsize 3))) from hg)]; rfl
              have hz := gchk_ok hg
              simp only [g3, x0, d0, h0, k0] at hz
              simp only [go_sem, kn1, kn2, kn3, kn4, kn5, kn6, kn7, kn8, kn9, kz1, kz2, kz3, kz4, kz5, kz6, kz7, kz8, kz9, kz0, reduceCtorEq, String.reduceEq, kn0, kq1, kq2, kq3, kq4, Int.toNat_natCast, l1, l2, e, hz, g3, tG_3, x0, d0, h0, k0]
              omega
            · have e : gtake (3 :: l) = (gz, 0, gchk (g3 ⟨ofb ((l.take 32).take 16), ofb ((l.take 32).drop 16)⟩)) := by
                rw [gtake_long (by omega) hl (by omega), if_neg (show ¬ gok (gread 3 (l.take (gsize 3))) from hg)]; rfl
              have hz : (gchk (g3 ⟨ofb ((l.take 32).take 16), ofb ((l.take 32).drop 16)⟩) = 0) = False := eq_false (gchk_no hg)
              simp only [g3, x0, d0, h0, k0] at hz
              simp only [go_sem, kn1, kn2, kn3, kn4, kn5, kn6, kn7, kn8, kn9, kz1, kz2, kz3, kz4, kz5, kz6, kz7, kz8, kz9, kz0, reduceCtorEq, String.reduceEq, kn0, kq1, kq2, kq3, kq4, Int.toNat_natCast, l1, l2, e, hz, gz, g3, tG_3, x0, d0, h0, k0]
              omega
      · by_cases hl : l.length < 25
        · have e : gtake (4 :: l) = (gz, 0, 11) := by simp [gtake, gsize, hl]
          have e1 : (((l.length + 1 : Nat) : Int) < 26) = True := eq_true (by omega)
          simp only [go_sem, Tryz.f39, kn1, kn2, kn3, kn4, kn5, kn6, kn7, kn8, kn9, kz1, kz2, kz3, kz4, kz5, kz6, kz7, kz8, kz9, kz0, reduceCtorEq, String.reduceEq, kn0, kq1, kq2, kq3, kq4, Int.toNat_natCast, e, e0, e1, gz, x0, d0, h0, k0]
          exact by omega
        · have e1 : (((l.length + 1 : Nat) : Int) < 26) = False := eq_false (by omega)
          have q1 : (l.take 25).length = 25 := by simp; omega
          have q2 : (l.take 25).getD 24 0 = l.getD 24 0 := by simp [List.getD_eq_getElem?_getD, List.getElem?_take]
          have q4 : (4 :: l).getD 25 0 = l.getD 24 0 := rfl
          by_cases hc : 1 < l.getD 24 0
          · have e : gtake (4 :: l) = (gz, 0, 11) := by
              unfold gtake; simp only; rw [if_neg (by omega), if_neg (show ¬ l.length < gsize 4 from hl), if_pos ⟨trivial, hc⟩]
            have q3 : (1 < l.getD 24 0) = True := eq_true hc
            simp only [go_sem, Tryz.f39, kn1, kn2, kn3, kn4, kn5, kn6, kn7, kn8, kn9, kz1, kz2, kz3, kz4, kz5, kz6, kz7, kz8, kz9, kz0, reduceCtorEq, String.reduceEq, kn0, kq1, kq2, kq3, kq4, Int.toNat_natCast, e, e0, e1, q1, q2, q3, q4, gz, x0, d0, h0, k0]
            exact by omega
          have q3 : (1 < l.getD 24 0) = False := eq_false hc
          simp only [go_sem, Tryz.f39, kn1, kn2, kn3, kn4, kn5, kn6, kn7, kn8, kn9, kz1, kz2, kz3, kz4, kz5, kz6, kz7, kz8, kz9, kz0, reduceCtorEq, String.reduceEq, kn0, kq1, kq2, kq3, kq4, Int.toNat_natCast, e0, e1, q1, q2, q3, q4]
          refine ⟨by omega, by omega, by omega, by omega, by omega, by omega, by omega, Unit, fun _ => ⟨[.sl (els (V.n .u8) (4 :: l)), .u, .ref 2 1 15 0 0, .z 0, .z 0, .z 25, .ref 6 1 15 0 0, .sl (els (V.n .u8) (l.take 25)), .z 0, .u, .u, .u, .u, .u, .u, .u, .u, .u, .u, .u, .u, .u, .u, .u, .u, .u, .u, .u, .u, .u, .u, .u, .u, .u, .u, .u, .u, .u, .u, .u, .u, .u, .u, .u, .u, .u, .u, .u, .u, .u, .u, .u, .u, .u, .u, .u, .u, .u, .u, .u, .u, .u, .u, .u, .u, .u, .u, .u, .u, .u, .u, .u, .u, .u, .u, .u, .u, .u, .u, .u, .u, .u, .u, .u, .u, .u, .u, .u, .u, .u, .u, .u, .u, .u, .u, .u, .u, .u, .u, .u, .u, .u, .u, .u, .u, .u, .u, .u, .u, .u, .u, .u, .u, .u, .u, .u, .u, .u, .u, .u, .u, .u, .u, .u, .u, .u, .u, .u, .u, .u, .u, .u, .u, .u, .u, .u, .u, .u, .u, .u], [(6, ⟨15, true, [vG ⟨4, 0, x0, d0, h0⟩], false⟩), (2, ⟨15, true, [vG gz], false⟩)], om⟩, fun _ => True, fun _ => 0, ⟨(), trivial, ?_⟩, ?_⟩
          · simp only [go_sem, kn1, kn2, kn3, kn4, kn5, kn6, kn7, kn8, kn9, kz1, kz2, kz3, kz4, kz5, kz6, kz7, kz8, kz9, kz0, reduceCtorEq, String.reduceEq, kn0, kq1, kq2, kq3, kq4, Int.toNat_natCast, gz, x0, d0, h0, k0, g1]
          · intro _ _
            have hb8 : ∀ x ∈ l.take 25, x < 256 := fun x hx => hb x (List.mem_of_mem_take hx)
            have r1 := sb_len (l.take 25) (i := 16) (j := 20) (by omega) (by omega)
            have r2 := sb_len (l.take 25) (i := 20) (j := 24) (by omega) (by omega)
            have b1 := ofb_lt (sb (l.take 25) 16 20) (sb_bytes hb8)
            have b2 := ofb_lt (sb (l.take 25) 20 24) (sb_bytes hb8)
            rw [r1] at b1; rw [r2] at b2
            have l1 : ((l.take 25).take 16).length = 16 := by simp; omega
            have m1 : ofb (sb (l.take 25) 16 20) % 4294967296 = ofb (sb (l.take 25) 16 20) := Nat.mod_eq_of_lt b1
            have m2 : ofb (sb (l.take 25) 20 24) % 4294967296 = ofb (sb (l.take 25) 20 24) := Nat.mod_eq_of_lt b2
            have f1 : ((l.take 25).take 20).drop 16 = sb (l.take 25) 16 20 := rfl
            have f2 : ((l.take 25).take 24).drop 20 = sb (l.take 25) 20 24 := rfl
            by_cases hg : gok (g4 (htake (l.take 25)))
            · have e : gtake (4 :: l) = (g4 (htake (l.take 25)), 26, 0) := by
                rw [gtake_long (by omega) hl (fun h => hc h.2), if_pos (show  gok (gread 4 (l.take (gsize 4))) from hg)]; rfl
              have hz := gchk_ok hg
              simp only [g4, htake, x0, d0, h0, k0] at hz
              simp only [go_sem, kn1, kn2, kn3, kn4, kn5, kn6, kn7, kn8, kn9, kz1, kz2, kz3, kz4, kz5, kz6, kz7, kz8, kz9, kz0, reduceCtorEq, String.reduceEq, kn0, kq1, kq2, kq3, kq4, Int.toNat_natCast, l1, q1, r1, r2, m1, m2, f1, f2, e, hz, g4, htake, tG_4, x0, d0, h0, k0]
              try omega
            · have e : gtake (4 :: l) = (gz, 0, gchk (g4 (htake (l.take 25)))) := by
                rw [gtake_long (by omega) hl (fun h => hc h.2), if_neg (show ¬ gok (gread 4 (l.take (gsize 4))) from hg)]; rfl
              have hz : (gchk (g4 (htake (l.take 25))) = 0) = False := eq_false (gchk_no hg)
              simp only [g4, htake, x0, d0, h0, k0] at hz
              simp only [go_sem, kn1, kn2, kn3, kn4, kn5, kn6, kn7, kn8, kn9, kz1, kz2, kz3, kz4, kz5, kz6, kz7, kz8, kz9, kz0, reduceCtorEq, String.reduceEq, kn0, kq1, kq2, kq3, kq4, Int.toNat_natCast, l1, q1, r1, r2, m1, m2, f1, f2, e, hz, gz, g4, htake, tG_4, x0, d0, h0, k0]
              try omega
    · have e : gtake (k :: l) = (gz, 0, 2) := by unfold gtake; simp only; rw [if_pos hk]
      have e0 : (((l.length + 1 : Nat) : Int) = 0) = False := eq_false (by omega)
      by_cases h1 : k < 1
      · have h1' : (k < 1) = True := eq_true h1
        simp only [go_sem, Tryz.f39, kn1, kn2, kn3, kn4, kn5, kn6, kn7, kn8, kn9, kz1, kz2, kz3, kz4, kz5, kz6, kz7, kz8, kz9, kz0, reduceCtorEq, String.reduceEq, kn0, kq1, kq2, kq3, kq4, Int.toNat_natCast, e, e0, h1', gz, x0, d0, h0, k0]
        exact by omega
      · have h1' : (k < 1) = False := eq_false h1
        have h2' : (4 < k) = True := eq_true (by omega)
        simp only [go_sem, Tryz.f39, kn1, kn2, kn3, kn4, kn5, kn6, kn7, kn8, kn9, kz1, kz2, kz3, kz4, kz5, kz6, kz7, kz8, kz9, kz0, reduceCtorEq, String.reduceEq, kn0, kq1, kq2, kq3, kq4, Int.toNat_natCast, e, e0, h1', h2', gz, x0, d0, h0, k0]
        exact by omega
end Go.Proofs.YtggpbjhmpipplaaGreat.I
