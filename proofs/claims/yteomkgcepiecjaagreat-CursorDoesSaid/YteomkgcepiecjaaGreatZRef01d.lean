/- The reference of layer 1: digits, whole, Add. -/
import Derived.Test.YteomkgcepiecjaaGreatZG4
namespace Go.Proofs.YteomkgcepiecjaaGreat.I
open Go
open Nat renaming reduceEqDiff → kn1, reduceBEq → kn2, reducePow → kn3, reduceMod → kn4, reduceAdd → kn5, reduceSub → kn6, reduceMul → kn7, reduceDiv → kn8, reduceLeDiff → kn9, reduceLT → kn0, zero_lt_one → kq1, zero_add → kq2, zero_le → kq3, le_refl → kq4
open Int renaming reduceToNat → kz1, reduceAdd → kz2, reduceSub → kz3, reduceMul → kz4, reduceDiv → kz5, reduceMod → kz6, reduceLE → kz7, reduceLT → kz8, reduceNeg → kz9, reduceEq → kz0
set_option maxRecDepth 10000
set_option linter.unusedSimpArgs false
set_option linter.unusedVariables false
def dg (n : Nat) : X4 := ⟨n % 18446744073709551616 % 4294967296, n % 18446744073709551616 / 4294967296, n / 18446744073709551616 % 4294967296, n / 18446744073709551616 / 4294967296⟩
def dig (x : X4) : Prop := x.a < 4294967296 ∧ x.b < 4294967296 ∧ x.c < 4294967296 ∧ x.d < 4294967296
def dval (x : X4) : Nat := (x.c + 4294967296 * x.d) * 18446744073709551616 + (x.a + 4294967296 * x.b)
theorem dg_dig {n : Nat} (h : n < 340282366920938463463374607431768211456) : dig (dg n) := by
  refine ⟨?_, ?_, ?_, ?_⟩ <;> simp only [dg] <;> omega
theorem dval_dg {n : Nat} : dval (dg n) = n := by
  simp only [dval, dg]; omega
@[go_sem] noncomputable def c_ref01_digits : Cn := fn1 tW (fun _ => True) fun n => vX (dg n)
noncomputable def cx_ref01_digits : Cx := { T := T, E := E, cs := [], sch := [], ob := [], qs := [] }
@[go_sem] theorem cx_ref01_digits_e : cx_ref01_digits.gs = none ∧ cx_ref01_digits.md = 0 ∧ cx_ref01_digits.T = T ∧ cx_ref01_digits.E = E ∧ cx_ref01_digits.cs = [] ∧ ∀ d, (cx_ref01_digits.ob).contains d = false := ⟨rfl, rfl, rfl, rfl, rfl, fun _ => rfl⟩
theorem cok_ref01_digits : COk Tryz.prog (cx_ref01_digits) := cok_of rfl (.nil) (.nil) (.nil)
theorem ok_ref01_digits : Ok Tryz.prog 77 c_ref01_digits := by
  refine ok_fn1 cok_ref01_digits mixed Tryz.func77 rfl (by kernel_rfl) (by kernel_rfl) rfl ?_
  intro n om hw _
  simp only [go_sem, Tryz.f77, kn1, kn2, kn3, kn4, kn5, kn6, kn7, kn8, kn9, kz1, kz2, kz3, kz4, kz5, kz6, kz7, kz8, kz9, kz0, reduceCtorEq, String.reduceEq, kn0, kq1, kq2, kq3, kq4, Int.toNat_natCast, dg]
@[go_sem] noncomputable def c_ref01_whole : Cn := fn1 tX dig fun x => vW (dval x)
noncomputable def cx_ref01_whole : Cx := { T := T, E := E, cs := [], sch := [], ob := [], qs := [] }
@[go_sem] theorem cx_ref01_whole_e : cx_ref01_whole.gs = none ∧ cx_ref01_whole.md = 0 ∧ cx_ref01_whole.T = T ∧ cx_ref01_whole.E = E ∧ cx_ref01_whole.cs = [] ∧ ∀ d, (cx_ref01_whole.ob).contains d = false := ⟨rfl, rfl, rfl, rfl, rfl, fun _ => rfl⟩
theorem cok_ref01_whole : COk Tryz.prog (cx_ref01_whole) := cok_of rfl (.nil) (.nil) (.nil)
theorem ok_ref01_whole : Ok Tryz.prog 78 c_ref01_whole := by
  refine ok_fn1 cok_ref01_whole mixed Tryz.func78 rfl (by kernel_rfl) (by kernel_rfl) rfl ?_
  intro x om hw ⟨h1, h2, h3, h4⟩
  simp only [go_sem, Tryz.f78, kn1, kn2, kn3, kn4, kn5, kn6, kn7, kn8, kn9, kz1, kz2, kz3, kz4, kz5, kz6, kz7, kz8, kz9, kz0, reduceCtorEq, String.reduceEq, kn0, kq1, kq2, kq3, kq4, Int.toNat_natCast, dval]
  refine ⟨?_, ?_⟩ <;> omega
@[go_sem] noncomputable def c_ref01_Add : Cn := fn2 tW tW (fun _ _ => True) fun x y => .tup [vW ((x + y) % 340282366920938463463374607431768211456), .b (decide (340282366920938463463374607431768211456 ≤ x + y))]
noncomputable def cx_ref01_Add : Cx := { T := T, E := E, cs := [(77, c_ref01_digits), (78, c_ref01_whole)], sch := [(7, false, .take 0 (.take 1 (.take 2 (.take 3 (.take 4 (.take 5 (.take 6 (.take 7 (.take 8 (.take 9 (.done)))))))))))], ob := [], qs := [77, 78] }
@[go_sem] theorem cx_ref01_Add_e : cx_ref01_Add.gs = none ∧ cx_ref01_Add.md = 0 ∧ cx_ref01_Add.T = T ∧ cx_ref01_Add.E = E ∧ cx_ref01_Add.cs = [(77, c_ref01_digits), (78, c_ref01_whole)] ∧ cx_ref01_Add.sch = [(7, false, .take 0 (.take 1 (.take 2 (.take 3 (.take 4 (.take 5 (.take 6 (.take 7 (.take 8 (.take 9 (.done)))))))))))] ∧ ∀ d, (cx_ref01_Add.ob).contains d = false := ⟨rfl, rfl, rfl, rfl, rfl, rfl, fun _ => rfl⟩
theorem cok_ref01_Add : COk Tryz.prog (cx_ref01_Add) := cok_of rfl (.cons ok_ref01_digits (.cons ok_ref01_whole (.nil))) (.cons (fun _ => fn1_quiet) (.cons (fun _ => fn1_quiet) (.nil))) (.nil)
set_option maxHeartbeats 1000000 in
theorem ok_ref01_Add : Ok Tryz.prog 49 c_ref01_Add := by
  refine ok_fn2 cok_ref01_Add mixed Tryz.func49 rfl (by kernel_rfl) (by kernel_rfl) rfl ?_
  intro m n om hw _
  have hm := wf_w hw
  have hn := wf_w hw.2
  obtain ⟨x, hx⟩ : ∃ x, dg m = x := ⟨_, rfl⟩
  obtain ⟨y, hy⟩ : ∃ y, dg n = y := ⟨_, rfl⟩
  have dx := dg_dig hm
  have dy := dg_dig hn
  have vx := dval_dg (n := m)
  have vy := dval_dg (n := n)
  rw [hx] at dx vx
  rw [hy] at dy vy
  obtain ⟨x1, x2, x3, x4⟩ := dx
  obtain ⟨y1, y2, y3, y4⟩ := dy
  obtain ⟨c1, hc1⟩ : ∃ c, (x.a + y.a) / 4294967296 = c := ⟨_, rfl⟩
  obtain ⟨c2, hc2⟩ : ∃ c, (x.b + y.b + c1) / 4294967296 = c := ⟨_, rfl⟩
  obtain ⟨c3, hc3⟩ : ∃ c, (x.c + y.c + c2) / 4294967296 = c := ⟨_, rfl⟩
  obtain ⟨c4, hc4⟩ : ∃ c, (x.d + y.d + c3) / 4294967296 = c := ⟨_, rfl⟩
  have q1 : c1 ≤ 1 := by omega
  have q2 : c2 ≤ 1 := by omega
  have q3 : c3 ≤ 1 := by omega
  have q4 : c4 ≤ 1 := by omega
  obtain ⟨C, hC⟩ : ∃ C, C = [0, c1, c2, c3, c4] := ⟨_, rfl⟩
  obtain ⟨X, hX⟩ : ∃ X : List X4, X = [x, ⟨(x.a + y.a) % 4294967296, x.b, x.c, x.d⟩, ⟨(x.a + y.a) % 4294967296, (x.b + y.b + c1) % 4294967296, x.c, x.d⟩, ⟨(x.a + y.a) % 4294967296, (x.b + y.b + c1) % 4294967296, (x.c + y.c + c2) % 4294967296, x.d⟩, ⟨(x.a + y.a) % 4294967296, (x.b + y.b + c1) % 4294967296, (x.c + y.c + c2) % 4294967296, (x.d + y.d + c3) % 4294967296⟩] := ⟨_, rfl⟩
  have s1 : (x.a + y.a + 0) % 18446744073709551616 = x.a + y.a := by omega
  simp only [go_sem, Tryz.f49, kn1, kn2, kn3, kn4, kn5, kn6, kn7, kn8, kn9, kz1, kz2, kz3, kz4, kz5, kz6, kz7, kz8, kz9, kz0, reduceCtorEq, String.reduceEq, kn0, kq1, kq2, kq3, kq4, Int.toNat_natCast, hx, hy]
  refine fun _ _ => ⟨Nat, fun k => ⟨[.u, .u, .u, .u, .ref 4 1 2 0 0, .b false, .ref 6 1 4 0 0, .ref 7 1 4 0 0, .n .u64 (C.getD k 0), .z k, .u, .u, .u, .u, .u, .u, .u, .u, .u, .u, .u, .u, .u, .u, .u, .u, .u, .u, .u, .u, .u, .u, .u, .u, .u, .u, .u, .u], [(7, ⟨4, true, [vX y], false⟩), (6, ⟨4, true, [vX (X.getD k x)], false⟩), (4, ⟨2, true, [vW 0], false⟩)], om⟩, fun k => k ≤ 4, fun k => 4 - k, ⟨0, by omega, ?_⟩, ?_⟩
  · simp only [go_sem, kn1, kn2, kn3, kn4, kn5, kn6, kn7, kn8, kn9, kz1, kz2, kz3, kz4, kz5, kz6, kz7, kz8, kz9, kz0, reduceCtorEq, String.reduceEq, kn0, kq1, kq2, kq3, kq4, Int.toNat_natCast, hC, hX]
  · intro k hk
    obtain rfl | rfl | rfl | rfl | rfl : k = 0 ∨ k = 1 ∨ k = 2 ∨ k = 3 ∨ k = 4 := by omega
    all_goals simp only [go_sem, kn1, kn2, kn3, kn4, kn5, kn6, kn7, kn8, kn9, kz1, kz2, kz3, kz4, kz5, kz6, kz7, kz8, kz9, kz0, reduceCtorEq, String.reduceEq, kn0, kq1, kq2, kq3, kq4, Int.toNat_natCast, hC, hX]
    · exact ⟨1, by omega, by simp only [List.getD_cons_succ, List.getD_cons_zero]; refine ⟨⟨?_, ?_⟩, ?_, ?_, ?_, ?_⟩ <;> omega, by omega⟩
    · exact ⟨2, by omega, by simp only [List.getD_cons_succ, List.getD_cons_zero]; refine ⟨⟨?_, ?_⟩, ?_, ?_, ?_, ?_⟩ <;> omega, by omega⟩
    · exact ⟨3, by omega, by simp only [List.getD_cons_succ, List.getD_cons_zero]; refine ⟨⟨?_, ?_⟩, ?_, ?_, ?_, ?_⟩ <;> omega, by omega⟩
    · exact ⟨4, by omega, by simp only [List.getD_cons_succ, List.getD_cons_zero]; refine ⟨⟨?_, ?_⟩, ?_, ?_, ?_, ?_⟩ <;> omega, by omega⟩
    · have k1 : x.a + y.a = 4294967296 * c1 + (x.a + y.a) % 4294967296 := by rw [← hc1]; omega
      have k2 : x.b + y.b + c1 = 4294967296 * c2 + (x.b + y.b + c1) % 4294967296 := by rw [← hc2]; omega
      have k3 : x.c + y.c + c2 = 4294967296 * c3 + (x.c + y.c + c2) % 4294967296 := by rw [← hc3]; omega
      have k4 : x.d + y.d + c3 = 4294967296 * c4 + (x.d + y.d + c3) % 4294967296 := by rw [← hc4]; omega
      have l1 : (x.a + y.a) % 4294967296 < 4294967296 := Nat.mod_lt _ (by omega)
      have l2 : (x.b + y.b + c1) % 4294967296 < 4294967296 := Nat.mod_lt _ (by omega)
      have l3 : (x.c + y.c + c2) % 4294967296 < 4294967296 := Nat.mod_lt _ (by omega)
      have l4 : (x.d + y.d + c3) % 4294967296 < 4294967296 := Nat.mod_lt _ (by omega)
      generalize (x.a + y.a) % 4294967296 = d1 at *
      generalize (x.b + y.b + c1) % 4294967296 = d2 at *
      generalize (x.c + y.c + c2) % 4294967296 = d3 at *
      generalize (x.d + y.d + c3) % 4294967296 = d4 at *
      clear hc1 hc2 hc3 hc4 hX
      have hmn : m + n = c4 * 340282366920938463463374607431768211456 + dval ⟨d1, d2, d3, d4⟩ := by
        rw [← vx, ← vy]; simp only [dval]; omega
      have hV : dval ⟨d1, d2, d3, d4⟩ < 340282366920938463463374607431768211456 := by simp only [dval]; omega
      generalize dval ⟨d1, d2, d3, d4⟩ = W at hmn hV ⊢
      have hmod : (m + n) % 340282366920938463463374607431768211456 = W := by omega
      rw [hmod]
      exact ⟨⟨l1, l2, l3, l4⟩, fun _ => ⟨⟨rfl, rfl⟩, decide_eq_decide.2 ⟨fun _ => by omega, fun _ => by omega⟩⟩⟩
end Go.Proofs.YteomkgcepiecjaaGreat.I
