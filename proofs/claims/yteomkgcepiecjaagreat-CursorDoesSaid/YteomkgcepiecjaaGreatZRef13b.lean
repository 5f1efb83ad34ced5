/- The reference of layer 13: Check, Word, Step, Jump. -/
import Derived.Test.YteomkgcepiecjaaGreatZRef13a
import Derived.Test.YteomkgcepiecjaaGreatZSeed2
namespace Go.Proofs.YteomkgcepiecjaaGreat.I
open Go
open Nat renaming reduceEqDiff → kn1, reduceBEq → kn2, reducePow → kn3, reduceMod → kn4, reduceAdd → kn5, reduceSub → kn6, reduceMul → kn7, reduceDiv → kn8, reduceLeDiff → kn9, reduceLT → kn0, zero_lt_one → kq1, zero_add → kq2, zero_le → kq3, le_refl → kq4
open Int renaming reduceToNat → kz1, reduceAdd → kz2, reduceSub → kz3, reduceMul → kz4, reduceDiv → kz5, reduceMod → kz6, reduceLE → kz7, reduceLT → kz8, reduceNeg → kz9, reduceEq → kz0
set_option maxRecDepth 10000
set_option linter.unusedSimpArgs false
set_option linter.unusedVariables false
theorem x0_iff (x : X4) : (x.a = 0 ∧ x.b = 0 ∧ x.c = 0 ∧ x.d = 0) = (x = x0) := by
  apply propext; cases x; simp [x0]
theorem d0_iff (p : D2) : (p.a / 18446744073709551616 = 0 ∧ p.a % 18446744073709551616 = 0 ∧ p.b / 18446744073709551616 = 0 ∧ p.b % 18446744073709551616 = 0) = (p = d0) := by
  apply propext; obtain ⟨a, b⟩ := p; simp only [d0, D2.mk.injEq]
  constructor <;> intro h <;> omega
theorem h0_iff (f : HS) : (f.c / 18446744073709551616 = 0 ∧ f.c % 18446744073709551616 = 0 ∧ f.k.a = 0 ∧ f.k.b = 0 ∧ f.h = false) = (f = h0) := by
  apply propext; obtain ⟨c, ⟨a, b⟩, h⟩ := f; simp only [h0, k0, HS.mk.injEq, K2.mk.injEq]
  constructor
  · rintro ⟨h1, h2, h3, h4, h5⟩; exact ⟨by omega, ⟨h3, h4⟩, h5⟩
  · rintro ⟨h1, ⟨h3, h4⟩, h5⟩; exact ⟨by omega, by omega, h3, h4, h5⟩
theorem g1_iff (m : Nat) (x : X4) (p : D2) (f : HS) : (g1 m = ⟨1, m, x, p, f⟩) = (x = x0 ∧ p = d0 ∧ f = h0) := by
  apply propext; simp only [g1, GS.mk.injEq, true_and]
  exact ⟨fun ⟨h1, h2, h3⟩ => ⟨h1.symm, h2.symm, h3.symm⟩, fun ⟨h1, h2, h3⟩ => ⟨h1.symm, h2.symm, h3.symm⟩⟩
theorem g2_iff (m : Nat) (x : X4) (p : D2) (f : HS) : (g2 x = ⟨2, m, x, p, f⟩) = (m = 0 ∧ p = d0 ∧ f = h0) := by
  apply propext; simp only [g2, GS.mk.injEq, true_and]
  exact ⟨fun ⟨h1, h2, h3⟩ => ⟨h1.symm, h2.symm, h3.symm⟩, fun ⟨h1, h2, h3⟩ => ⟨h1.symm, h2.symm, h3.symm⟩⟩
theorem g3_iff (m : Nat) (x : X4) (p : D2) (f : HS) : (g3 p = ⟨3, m, x, p, f⟩) = (m = 0 ∧ x = x0 ∧ f = h0) := by
  apply propext; simp only [g3, GS.mk.injEq, true_and]
  exact ⟨fun ⟨h1, h2, h3⟩ => ⟨h1.symm, h2.symm, h3.symm⟩, fun ⟨h1, h2, h3⟩ => ⟨h1.symm, h2.symm, h3.symm⟩⟩
theorem g4_iff (m : Nat) (x : X4) (p : D2) (f : HS) : (g4 f = ⟨4, m, x, p, f⟩) = (m = 0 ∧ x = x0 ∧ p = d0) := by
  apply propext; simp only [g4, GS.mk.injEq, true_and, and_true]
  exact ⟨fun ⟨h1, h2, h3⟩ => ⟨h1.symm, h2.symm, h3.symm⟩, fun ⟨h1, h2, h3⟩ => ⟨h1.symm, h2.symm, h3.symm⟩⟩
@[go_sem] noncomputable def c_ref13_Check : Cn := fn1 tG (fun _ => True) fun s => .z (gchk s)
noncomputable def cx_ref13_Check : Cx := { T := T, E := E, cs := [], sch := [], ob := [], qs := [] }
@[go_sem] theorem cx_ref13_Check_e : cx_ref13_Check.gs = none ∧ cx_ref13_Check.md = 0 ∧ cx_ref13_Check.T = T ∧ cx_ref13_Check.E = E ∧ cx_ref13_Check.cs = [] ∧ ∀ d, (cx_ref13_Check.ob).contains d = false := ⟨rfl, rfl, rfl, rfl, rfl, fun _ => rfl⟩
theorem cok_ref13_Check : COk Tryz.prog (cx_ref13_Check) := cok_of rfl (.nil) (.nil) (.nil)
set_option maxHeartbeats 4000000 in
theorem ok_ref13_Check : Ok Tryz.prog 110 c_ref13_Check := by
  refine ok_fn1 cok_ref13_Check mixed Tryz.func110 rfl (by kernel_rfl) (by kernel_rfl) rfl ?_
  intro s om hw _
  obtain ⟨k, m, x, p, f⟩ := s
  by_cases hk : 1 ≤ k ∧ k ≤ 4
  · obtain rfl | rfl | rfl | rfl : k = 1 ∨ k = 2 ∨ k = 3 ∨ k = 4 := by omega
    · simp only [go_sem, Tryz.f110, kn1, kn2, kn3, kn4, kn5, kn6, kn7, kn8, kn9, kz1, kz2, kz3, kz4, kz5, kz6, kz7, kz8, kz9, kz0, reduceCtorEq, String.reduceEq, kn0, kq1, kq2, kq3, kq4, Int.toNat_natCast, x0_iff, d0_iff, h0_iff, gchk_1, g1_iff]
      repeat' (first | with_reducible refine And.intro ?_ ?_ | with_reducible intro _)
      all_goals simp_all
    · simp only [go_sem, Tryz.f110, kn1, kn2, kn3, kn4, kn5, kn6, kn7, kn8, kn9, kz1, kz2, kz3, kz4, kz5, kz6, kz7, kz8, kz9, kz0, reduceCtorEq, String.reduceEq, kn0, kq1, kq2, kq3, kq4, Int.toNat_natCast, x0_iff, d0_iff, h0_iff, gchk_2, g2_iff]
      repeat' (first | with_reducible refine And.intro ?_ ?_ | with_reducible intro _)
      all_goals simp_all
    · simp only [go_sem, Tryz.f110, kn1, kn2, kn3, kn4, kn5, kn6, kn7, kn8, kn9, kz1, kz2, kz3, kz4, kz5, kz6, kz7, kz8, kz9, kz0, reduceCtorEq, String.reduceEq, kn0, kq1, kq2, kq3, kq4, Int.toNat_natCast, x0_iff, d0_iff, h0_iff, gchk_3, g3_iff]
      rw [show p.b % 18446744073709551616 % 2 = p.b % 2 by omega]
      by_cases hp : p.b % 2 = 1
      · simp only [hp, Nat.one_ne_zero, false_implies, true_and, not_false_eq_true, true_implies]
        repeat' (first | with_reducible refine And.intro ?_ ?_ | with_reducible intro _)
        all_goals simp_all
      have hp' : p.b % 2 = 0 := by omega
      simp only [hp', Nat.zero_ne_one, false_and, if_false, true_implies, not_true_eq_false, false_implies, and_true]
      repeat' (first | with_reducible refine And.intro ?_ ?_ | with_reducible intro _)
      all_goals simp_all
    · simp only [go_sem, Tryz.f110, kn1, kn2, kn3, kn4, kn5, kn6, kn7, kn8, kn9, kz1, kz2, kz3, kz4, kz5, kz6, kz7, kz8, kz9, kz0, reduceCtorEq, String.reduceEq, kn0, kq1, kq2, kq3, kq4, Int.toNat_natCast, x0_iff, d0_iff, h0_iff, gchk_4, g4_iff]
      repeat' (first | with_reducible refine And.intro ?_ ?_ | with_reducible intro _)
      all_goals simp_all
  · rcases (show k < 1 ∨ 4 < k by omega) with h | h
    · have h' : (k < 1) = True := eq_true h
      simp only [go_sem, Tryz.f110, kn1, kn2, kn3, kn4, kn5, kn6, kn7, kn8, kn9, kz1, kz2, kz3, kz4, kz5, kz6, kz7, kz8, kz9, kz0, reduceCtorEq, String.reduceEq, kn0, kq1, kq2, kq3, kq4, Int.toNat_natCast, h', gchk_5 hk]
    · have h' : (k < 1) = False := eq_false (by omega)
      have h'' : (4 < k) = True := eq_true h
      simp only [go_sem, Tryz.f110, kn1, kn2, kn3, kn4, kn5, kn6, kn7, kn8, kn9, kz1, kz2, kz3, kz4, kz5, kz6, kz7, kz8, kz9, kz0, reduceCtorEq, String.reduceEq, kn0, kq1, kq2, kq3, kq4, Int.toNat_natCast, h', h'', gchk_5 hk]
theorem gstep_w1 {s : GS} (h : gok s) (e : s.kind = 1) : gstep s = ⟨s.kind, mstep s.mix, s.x, s.p, s.f⟩ := by
  obtain ⟨m, rfl⟩ | ⟨x, hx, rfl⟩ | ⟨p, hp, rfl⟩ | ⟨f, rfl⟩ := gok_cases h
  · rw [gstep_1]; rfl
  · exact absurd e (by rw [g2_kind]; decide)
  · exact absurd e (by rw [g3_kind]; decide)
  · exact absurd e (by rw [g4_kind]; decide)
theorem gstep_w2 {s : GS} (h : gok s) (e : s.kind = 2) : gstep s = ⟨s.kind, s.mix, xstep s.x, s.p, s.f⟩ := by
  obtain ⟨m, rfl⟩ | ⟨x, hx, rfl⟩ | ⟨p, hp, rfl⟩ | ⟨f, rfl⟩ := gok_cases h
  · exact absurd e (by rw [g1_kind]; decide)
  · rw [gstep_2 hx]; rfl
  · exact absurd e (by rw [g3_kind]; decide)
  · exact absurd e (by rw [g4_kind]; decide)
theorem gstep_w3 {s : GS} (h : gok s) (e : s.kind = 3) : gstep s = ⟨s.kind, s.mix, s.x, pcgS s.p, s.f⟩ := by
  obtain ⟨m, rfl⟩ | ⟨x, hx, rfl⟩ | ⟨p, hp, rfl⟩ | ⟨f, rfl⟩ := gok_cases h
  · exact absurd e (by rw [g1_kind]; decide)
  · exact absurd e (by rw [g2_kind]; decide)
  · rw [gstep_3 hp]; rfl
  · exact absurd e (by rw [g4_kind]; decide)
theorem gstep_w4 {s : GS} (h : gok s) (e : s.kind = 4) : gstep s = ⟨s.kind, s.mix, s.x, s.p, hstep s.f⟩ := by
  obtain ⟨m, rfl⟩ | ⟨x, hx, rfl⟩ | ⟨p, hp, rfl⟩ | ⟨f, rfl⟩ := gok_cases h
  · exact absurd e (by rw [g1_kind]; decide)
  · exact absurd e (by rw [g2_kind]; decide)
  · exact absurd e (by rw [g3_kind]; decide)
  · rw [gstep_4]; rfl
@[go_sem] noncomputable def c_ref13_Word : Cn := fn1 tG (fun _ => True) fun s => .n .u64 (gword s)
noncomputable def cx_ref13_Word : Cx := { T := T, E := E, cs := [(73, c_ref06_Word), (110, c_ref13_Check), (114, c_ref07_Word), (115, c_ref10_Word), (116, c_ref12_Word)], sch := [], ob := [], qs := [73, 110, 114, 115, 116] }
@[go_sem] theorem cx_ref13_Word_e : cx_ref13_Word.gs = none ∧ cx_ref13_Word.md = 0 ∧ cx_ref13_Word.T = T ∧ cx_ref13_Word.E = E ∧ cx_ref13_Word.cs = [(73, c_ref06_Word), (110, c_ref13_Check), (114, c_ref07_Word), (115, c_ref10_Word), (116, c_ref12_Word)] ∧ ∀ d, (cx_ref13_Word.ob).contains d = false := ⟨rfl, rfl, rfl, rfl, rfl, fun _ => rfl⟩
theorem cok_ref13_Word : COk Tryz.prog (cx_ref13_Word) := cok_of rfl (.cons ok_ref06_Word (.cons ok_ref13_Check (.cons ok_ref07_Word (.cons ok_ref10_Word (.cons ok_ref12_Word (.nil)))))) (.cons (fun _ => fn1_quiet) (.cons (fun _ => fn1_quiet) (.cons (fun _ => fn1_quiet) (.cons (fun _ => fn1_quiet) (.cons (fun _ => fn1_quiet) (.nil)))))) (.nil)
theorem ok_ref13_Word : Ok Tryz.prog 85 c_ref13_Word := by
  refine ok_fn1 cok_ref13_Word mixed Tryz.func85 rfl (by kernel_rfl) (by kernel_rfl) rfl ?_
  intro s om hw _
  by_cases hk : gok s
  · have hz := gchk_ok hk
    have e0 : s.kind = 1 ∨ s.kind = 2 ∨ s.kind = 3 ∨ s.kind = 4 := by have := hk.1; omega
    rcases e0 with e0 | e0 | e0 | e0
    · have e := gword_k1 hk e0
      have k1 : (s.kind = 1) = True := eq_true (by omega)
      have k2 : (s.kind = 2) = False := eq_false (by omega)
      have k3 : (s.kind = 3) = False := eq_false (by omega)
      have k4 : (s.kind = 4) = False := eq_false (by omega)
      simp only [go_sem, Tryz.f85, kn1, kn2, kn3, kn4, kn5, kn6, kn7, kn8, kn9, kz1, kz2, kz3, kz4, kz5, kz6, kz7, kz8, kz9, kz0, reduceCtorEq, String.reduceEq, kn0, kq1, kq2, kq3, kq4, Int.toNat_natCast, hz, k1, k2, k3, k4, e]
    · have e := gword_k2 hk e0
      have k1 : (s.kind = 1) = False := eq_false (by omega)
      have k2 : (s.kind = 2) = True := eq_true (by omega)
      have k3 : (s.kind = 3) = False := eq_false (by omega)
      have k4 : (s.kind = 4) = False := eq_false (by omega)
      simp only [go_sem, Tryz.f85, kn1, kn2, kn3, kn4, kn5, kn6, kn7, kn8, kn9, kz1, kz2, kz3, kz4, kz5, kz6, kz7, kz8, kz9, kz0, reduceCtorEq, String.reduceEq, kn0, kq1, kq2, kq3, kq4, Int.toNat_natCast, hz, k1, k2, k3, k4, e]
    · have e := gword_k3 hk e0
      have k1 : (s.kind = 1) = False := eq_false (by omega)
      have k2 : (s.kind = 2) = False := eq_false (by omega)
      have k3 : (s.kind = 3) = True := eq_true (by omega)
      have k4 : (s.kind = 4) = False := eq_false (by omega)
      simp only [go_sem, Tryz.f85, kn1, kn2, kn3, kn4, kn5, kn6, kn7, kn8, kn9, kz1, kz2, kz3, kz4, kz5, kz6, kz7, kz8, kz9, kz0, reduceCtorEq, String.reduceEq, kn0, kq1, kq2, kq3, kq4, Int.toNat_natCast, hz, k1, k2, k3, k4, e]
    · have e := gword_k4 hk e0
      have k1 : (s.kind = 1) = False := eq_false (by omega)
      have k2 : (s.kind = 2) = False := eq_false (by omega)
      have k3 : (s.kind = 3) = False := eq_false (by omega)
      have k4 : (s.kind = 4) = True := eq_true (by omega)
      simp only [go_sem, Tryz.f85, kn1, kn2, kn3, kn4, kn5, kn6, kn7, kn8, kn9, kz1, kz2, kz3, kz4, kz5, kz6, kz7, kz8, kz9, kz0, reduceCtorEq, String.reduceEq, kn0, kq1, kq2, kq3, kq4, Int.toNat_natCast, hz, k1, k2, k3, k4, e]
  · have hz : (gchk s = 0) = False := eq_false (gchk_no hk)
    have e : gword s = 0 := if_neg hk
    simp only [go_sem, Tryz.f85, kn1, kn2, kn3, kn4, kn5, kn6, kn7, kn8, kn9, kz1, kz2, kz3, kz4, kz5, kz6, kz7, kz8, kz9, kz0, reduceCtorEq, String.reduceEq, kn0, kq1, kq2, kq3, kq4, Int.toNat_natCast, hz, e]
@[go_sem] noncomputable def c_ref13_Step : Cn := fn1 tG (fun _ => True) fun s => vG (gstep s)
noncomputable def cx_ref13_Step : Cx := { T := T, E := E, cs := [(74, c_ref06_Step), (110, c_ref13_Check), (111, c_ref07_Step), (112, c_ref10_Step), (113, c_ref12_Step)], sch := [], ob := [], qs := [74, 110, 111, 112, 113] }
@[go_sem] theorem cx_ref13_Step_e : cx_ref13_Step.gs = none ∧ cx_ref13_Step.md = 0 ∧ cx_ref13_Step.T = T ∧ cx_ref13_Step.E = E ∧ cx_ref13_Step.cs = [(74, c_ref06_Step), (110, c_ref13_Check), (111, c_ref07_Step), (112, c_ref10_Step), (113, c_ref12_Step)] ∧ ∀ d, (cx_ref13_Step.ob).contains d = false := ⟨rfl, rfl, rfl, rfl, rfl, fun _ => rfl⟩
theorem cok_ref13_Step : COk Tryz.prog (cx_ref13_Step) := cok_of rfl (.cons ok_ref06_Step (.cons ok_ref13_Check (.cons ok_ref07_Step (.cons ok_ref10_Step (.cons ok_ref12_Step (.nil)))))) (.cons (fun _ => fn1_quiet) (.cons (fun _ => fn1_quiet) (.cons (fun _ => fn1_quiet) (.cons (fun _ => fn1_quiet) (.cons (fun _ => fn1_quiet) (.nil)))))) (.nil)
theorem ok_ref13_Step : Ok Tryz.prog 79 c_ref13_Step := by
  refine ok_fn1 cok_ref13_Step mixed Tryz.func79 rfl (by kernel_rfl) (by kernel_rfl) rfl ?_
  intro s om hw _
  by_cases hk : gok s
  · have hz := gchk_ok hk
    have e0 : s.kind = 1 ∨ s.kind = 2 ∨ s.kind = 3 ∨ s.kind = 4 := by have := hk.1; omega
    rcases e0 with e0 | e0 | e0 | e0
    · have e := gstep_w1 hk e0
      have k1 : (s.kind = 1) = True := eq_true (by omega)
      have k2 : (s.kind = 2) = False := eq_false (by omega)
      have k3 : (s.kind = 3) = False := eq_false (by omega)
      have k4 : (s.kind = 4) = False := eq_false (by omega)
      simp only [go_sem, Tryz.f79, kn1, kn2, kn3, kn4, kn5, kn6, kn7, kn8, kn9, kz1, kz2, kz3, kz4, kz5, kz6, kz7, kz8, kz9, kz0, reduceCtorEq, String.reduceEq, kn0, kq1, kq2, kq3, kq4, Int.toNat_natCast, hz, k1, k2, k3, k4, e]
    · have e := gstep_w2 hk e0
      have k1 : (s.kind = 1) = False := eq_false (by omega)
      have k2 : (s.kind = 2) = True := eq_true (by omega)
      have k3 : (s.kind = 3) = False := eq_false (by omega)
      have k4 : (s.kind = 4) = False := eq_false (by omega)
      simp only [go_sem, Tryz.f79, kn1, kn2, kn3, kn4, kn5, kn6, kn7, kn8, kn9, kz1, kz2, kz3, kz4, kz5, kz6, kz7, kz8, kz9, kz0, reduceCtorEq, String.reduceEq, kn0, kq1, kq2, kq3, kq4, Int.toNat_natCast, hz, k1, k2, k3, k4, e]
    · have e := gstep_w3 hk e0
      have k1 : (s.kind = 1) = False := eq_false (by omega)
      have k2 : (s.kind = 2) = False := eq_false (by omega)
      have k3 : (s.kind = 3) = True := eq_true (by omega)
      have k4 : (s.kind = 4) = False := eq_false (by omega)
      simp only [go_sem, Tryz.f79, kn1, kn2, kn3, kn4, kn5, kn6, kn7, kn8, kn9, kz1, kz2, kz3, kz4, kz5, kz6, kz7, kz8, kz9, kz0, reduceCtorEq, String.reduceEq, kn0, kq1, kq2, kq3, kq4, Int.toNat_natCast, hz, k1, k2, k3, k4, e]
    · have e := gstep_w4 hk e0
      have k1 : (s.kind = 1) = False := eq_false (by omega)
      have k2 : (s.kind = 2) = False := eq_false (by omega)
      have k3 : (s.kind = 3) = False := eq_false (by omega)
      have k4 : (s.kind = 4) = True := eq_true (by omega)
      simp only [go_sem, Tryz.f79, kn1, kn2, kn3, kn4, kn5, kn6, kn7, kn8, kn9, kz1, kz2, kz3, kz4, kz5, kz6, kz7, kz8, kz9, kz0, reduceCtorEq, String.reduceEq, kn0, kq1, kq2, kq3, kq4, Int.toNat_natCast, hz, k1, k2, k3, k4, e]
  · have hz : (gchk s = 0) = False := eq_false (gchk_no hk)
    have e : gstep s = s := if_neg hk
    simp only [go_sem, Tryz.f79, kn1, kn2, kn3, kn4, kn5, kn6, kn7, kn8, kn9, kz1, kz2, kz3, kz4, kz5, kz6, kz7, kz8, kz9, kz0, reduceCtorEq, String.reduceEq, kn0, kq1, kq2, kq3, kq4, Int.toNat_natCast, hz, e]
@[go_sem] noncomputable def c_ref13_Jump : Cn := fn2 tG tZ (fun _ _ => True) fun s n => vG (gst s n.toNat)
noncomputable def cx_ref13_Jump : Cx := { T := T, E := E, cs := [(79, c_ref13_Step)], sch := [], ob := [], qs := [79] }
@[go_sem] theorem cx_ref13_Jump_e : cx_ref13_Jump.gs = none ∧ cx_ref13_Jump.md = 0 ∧ cx_ref13_Jump.T = T ∧ cx_ref13_Jump.E = E ∧ cx_ref13_Jump.cs = [(79, c_ref13_Step)] ∧ ∀ d, (cx_ref13_Jump.ob).contains d = false := ⟨rfl, rfl, rfl, rfl, rfl, fun _ => rfl⟩
theorem cok_ref13_Jump : COk Tryz.prog (cx_ref13_Jump) := cok_of rfl (.cons ok_ref13_Step (.nil)) (.cons (fun _ => fn1_quiet) (.nil)) (.nil)
theorem ok_ref13_Jump : Ok Tryz.prog 20 c_ref13_Jump := by
  refine ok_fn2 cok_ref13_Jump mixed Tryz.func20 rfl (by kernel_rfl) (by kernel_rfl) rfl ?_
  intro s n om hw _
  have hn : i64ok n := hw.2.1
  unfold i64ok at hn
  simp only [go_sem, Tryz.f20, kn1, kn2, kn3, kn4, kn5, kn6, kn7, kn8, kn9, kz1, kz2, kz3, kz4, kz5, kz6, kz7, kz8, kz9, kz0, reduceCtorEq, String.reduceEq, kn0, kq1, kq2, kq3, kq4, Int.toNat_natCast]
  refine ⟨Nat, fun k => ⟨[.u, .z n, .ref 2 1 15 0 0, .u, .ref 4 1 15 0 0, .z k, .u, .u, .u, .u, .u, .u, .u, .u], [(4, ⟨15, true, [vG gz], false⟩), (2, ⟨15, true, [vG (gst s k)], false⟩)], om⟩, fun k => k ≤ n.toNat, fun k => n.toNat - k, ⟨0, Nat.zero_le _, ?_⟩, ?_⟩
  · simp only [go_sem, kn1, kn2, kn3, kn4, kn5, kn6, kn7, kn8, kn9, kz1, kz2, kz3, kz4, kz5, kz6, kz7, kz8, kz9, kz0, reduceCtorEq, String.reduceEq, kn0, kq1, kq2, kq3, kq4, Int.toNat_natCast, gst, gz, x0, d0, h0, k0, and_self]
  · intro k hk
    have s3 : gstep (gst s k) = gst s (k + 1) := rfl
    simp only [go_sem, kn1, kn2, kn3, kn4, kn5, kn6, kn7, kn8, kn9, kz1, kz2, kz3, kz4, kz5, kz6, kz7, kz8, kz9, kz0, reduceCtorEq, String.reduceEq, kn0, kq1, kq2, kq3, kq4, Int.toNat_natCast, gz, x0, d0, h0, k0, s3]
    refine ⟨fun h _ => ⟨by omega, k + 1, by omega, ⟨by omega, by simp only [and_self]⟩, by omega⟩, fun h => ?_⟩
    rw [show k = n.toNat by omega]
    simp only [and_self]
end Go.Proofs.YteomkgcepiecjaaGreat.I
