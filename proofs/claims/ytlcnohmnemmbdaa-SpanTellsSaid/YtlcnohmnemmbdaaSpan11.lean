/- Cover. -/
import Derived.Test.YtlcnohmnemmbdaaSpan9
import Derived.Test.YtlcnohmnemmbdaaMeas
namespace Go.Proofs.Ytlcnohmnemmbdaa.I
open Go
open Nat renaming reduceEqDiff → kn1, reduceBEq → kn2, reducePow → kn3, reduceMod → kn4, reduceAdd → kn5, reduceSub → kn6, reduceMul → kn7, reduceDiv → kn8, reduceLeDiff → kn9, reduceLT → kn0, zero_lt_one → kq1, zero_add → kq2, zero_le → kq3, le_refl → kq4
open Int renaming reduceToNat → kz1, reduceAdd → kz2, reduceSub → kz3, reduceMul → kz4, reduceDiv → kz5, reduceMod → kz6, reduceLE → kz7, reduceLT → kz8, reduceNeg → kz9, reduceEq → kz0
set_option maxRecDepth 10000
set_option linter.unusedSimpArgs false
set_option linter.unusedVariables false

theorem inU_perm {l m : List D2} (h : l.Perm m) (n : Nat) : inU l n = inU m n := by
  rw [Bool.eq_iff_iff, inU_iff, inU_iff]
  exact ⟨fun ⟨s, h1, h2⟩ => ⟨s, h.mem_iff.1 h1, h2⟩, fun ⟨s, h1, h2⟩ => ⟨s, h.mem_iff.2 h1, h2⟩⟩
theorem inU_full (l : List D2) (n : Nat) : inU (full l) n = inU l n := by
  rw [Bool.eq_iff_iff, inU_iff, inU_iff]
  refine ⟨fun ⟨s, h1, h2⟩ => ⟨s, full_mem h1, h2⟩, fun ⟨s, h1, h2⟩ => ⟨s, List.mem_filter.2 ⟨h1, ?_⟩, h2⟩⟩
  unfold inS at h2
  simp [isEmp]; omega
theorem covF_sorted {l ys : List D2} (hp : ys.Perm (full l)) (hs : Sorted ys) : (covF ys (0, 0)).1 = covr l :=
  covF_covr hs (fun s h => by
    have := (List.mem_filter.1 (hp.mem_iff.1 h)).2
    simp [isEmp] at this; omega) fun n => (inU_perm hp n).trans (inU_full l n)
theorem covF_lt {ys : List D2} (hs : Sorted ys) (hn : ∀ x ∈ ys, isEmp x = false) (hw : ∀ x ∈ ys, x.wf) : (covF ys (0, 0)).1 < 340282366920938463463374607431768211456 := by
  have h := (covF_ok ys hs fun s h => by
    have := hn s h
    simp [isEmp] at this; omega).1 340282366920938463463374607431768211455 fun s h => by have := (hw s h).2; omega
  rw [h]
  have := cnt_le (inU ys) 340282366920938463463374607431768211455
  omega
theorem covF_step {ys : List D2} {k : Nat} (hk : k < ys.length) : covF (ys.take (k + 1)) (0, 0) = ((covF (ys.take k) (0, 0)).1 + ((ys.getD k z2).b - max (ys.getD k z2).a (covF (ys.take k) (0, 0)).2), max (covF (ys.take k) (0, 0)).2 (ys.getD k z2).b) := by
  rw [take_snoc2 hk, covF_snoc]
@[go_sem] noncomputable def c_span_Cover : Cn := fn1 (tL t2) (fun l => l.length ≤ 30) fun l => vW (covr l)
noncomputable def cx_span_Cover : Cx := { T := T, E := E, cs := [(15, c_span_Len), (30, c_wide_Cmp), (32, c_wide_Add), (43, c_span_sorted)], sch := [(7, false, .take 0 (.take 1 (.alt 2 (.alt 3 (.take 4 (.take 5 (.take 6 (.alt 7 (.done) .no)))) .no) .no)))], ob := [], qs := [15, 30, 32, 43] }
@[go_sem] theorem cx_span_Cover_e : cx_span_Cover.gs = none ∧ cx_span_Cover.md = 0 ∧ cx_span_Cover.T = T ∧ cx_span_Cover.E = E ∧ cx_span_Cover.cs = [(15, c_span_Len), (30, c_wide_Cmp), (32, c_wide_Add), (43, c_span_sorted)] ∧ cx_span_Cover.sch = [(7, false, .take 0 (.take 1 (.alt 2 (.alt 3 (.take 4 (.take 5 (.take 6 (.alt 7 (.done) .no)))) .no) .no)))] ∧ ∀ d, (cx_span_Cover.ob).contains d = false := ⟨rfl, rfl, rfl, rfl, rfl, rfl, fun _ => rfl⟩
theorem cok_span_Cover : COk Try.prog (cx_span_Cover) := cok_of rfl (.cons ok_span_Len (.cons ok_wide_Cmp (.cons ok_wide_Add (.cons ok_span_sorted (.nil))))) (.cons (fun _ => fn1_quiet) (.cons (fun _ => fn2_quiet) (.cons (fun _ => fn2_quiet) (.cons (fun _ => quiet_span_sorted) (.nil))))) (.nil)
set_option maxHeartbeats 1000000 in
theorem ok_span_Cover : Ok Try.prog 27 c_span_Cover := by
  refine ok_fn1 cok_span_Cover mixed Try.func27 rfl (by kernel_rfl) (by kernel_rfl) rfl ?_
  intro l om hw hl
  have hb := wf_e2 hw
  simp only [go_sem, Try.f27, kn1, kn2, kn3, kn4, kn5, kn6, kn7, kn8, kn9, kz1, kz2, kz3, kz4, kz5, kz6, kz7, kz8, kz9, kz0, reduceCtorEq, String.reduceEq, kn0, kq1, kq2, kq3, kq4, Int.toNat_natCast, c_span_sorted.eq_1]
  refine ⟨hl, fun e => ?_, fun e id hid cap ys r g1 g2 g3 g4 g5 g6 => ?_⟩
  · subst e
    have e : covr [] = 0 := rfl
    refine ⟨Unit, fun _ => ⟨[.u, .u, .ref 2 1 2 0 0, .ref 3 1 2 0 0, .ref 4 1 2 0 0, .u, .u, .u, .sl [], .z 0, .z 0, .u, .u, .u, .u, .u, .u, .u, .u, .u, .u, .u, .u, .u, .u, .u, .u, .u, .u, .u, .u, .u, .u, .u, .u, .u, .u], [(4, ⟨2, true, [vW 0], false⟩), (3, ⟨2, true, [vW 0], false⟩), (2, ⟨2, true, [vW 0], false⟩)], om⟩, fun _ => True, fun _ => 0, ⟨(), trivial, ?_⟩, ?_⟩
    · simp only [go_sem, kn1, kn2, kn3, kn4, kn5, kn6, kn7, kn8, kn9, kz1, kz2, kz3, kz4, kz5, kz6, kz7, kz8, kz9, kz0, reduceCtorEq, String.reduceEq, kn0, kq1, kq2, kq3, kq4, Int.toNat_natCast]
    · intro _ _
      simp only [go_sem, kn1, kn2, kn3, kn4, kn5, kn6, kn7, kn8, kn9, kz1, kz2, kz3, kz4, kz5, kz6, kz7, kz8, kz9, kz0, reduceCtorEq, String.reduceEq, kn0, kq1, kq2, kq3, kq4, Int.toNat_natCast, e]
  have ef : ∀ x ∈ ys, isEmp x = false := fun x hx => by
    have := (List.mem_filter.1 (g2.mem_iff.1 hx)).2
    simpa using this
  have lr : (ys ++ r).length = ys.length + r.length := List.length_append
  have gy : ∀ j, j < ys.length → (ys ++ r).getD j z2 = ys.getD j z2 := fun j hj => by simp [List.getD_eq_getElem?_getD, List.getElem?_append, hj]
  have wy : ∀ x ∈ ys, x.wf := fun x hx => g4 x (List.mem_append_left _ hx)
  refine ⟨Nat, fun k => ⟨[.u, .u, .ref 2 1 2 0 0, .ref 3 1 2 0 0, .ref 4 1 2 0 0, .u, .u, .u, .ow id 0 ys.length cap, .z ys.length, .z k, .u, .u, .u, .u, .u, .u, .u, .u, .u, .u, .u, .u, .u, .u, .u, .u, .u, .u, .u, .u, .u, .u, .u, .u, .u, .u], [(4, ⟨2, true, [vW (covF (ys.take k) (0, 0)).2], false⟩), (3, ⟨2, true, [vW (covF (ys.take k) (0, 0)).1], false⟩), (2, ⟨2, true, [vW 0], false⟩)], om.put id (fl (ys ++ r))⟩,
    fun k => k ≤ ys.length, fun k => ys.length - k, ⟨0, Nat.zero_le _, ?_⟩, ?_⟩
  · simp only [go_sem, kn1, kn2, kn3, kn4, kn5, kn6, kn7, kn8, kn9, kz1, kz2, kz3, kz4, kz5, kz6, kz7, kz8, kz9, kz0, reduceCtorEq, String.reduceEq, kn0, kq1, kq2, kq3, kq4, Int.toNat_natCast, covF]
  · intro k hk
    by_cases c : k < ys.length
    · have c' : ((k : Int) < (ys.length : Int)) = True := eq_true (by omega)
      have f3 := fl_has (l := ys ++ r) (i := k) (by omega)
      have f4 := fl_get (l := ys ++ r) (i := k) (by omega)
      rw [gy _ c] at f4
      have cs := covF_step c
      have ct : (covF (ys.take (k + 1)) (0, 0)).1 < 340282366920938463463374607431768211456 := covF_lt (g3.sublist (List.take_sublist _ _)) (fun x hx => ef x (List.mem_of_mem_take hx)) fun x hx => wy x (List.mem_of_mem_take hx)
      rw [cs] at ct
      obtain ⟨S, hS⟩ : ∃ S, ys.getD k z2 = S := ⟨_, rfl⟩
      obtain ⟨p, hp⟩ : ∃ p, covF (ys.take k) (0, 0) = p := ⟨_, rfl⟩
      rw [hS, hp] at cs ct
      simp only at ct
      by_cases d1 : S.a < p.2
      · have d1' : (S.a < p.2) = True := eq_true d1
        rw [Nat.max_eq_right (Nat.le_of_lt d1)] at ct cs
        have ad : (p.1 + (S.b - p.2)) % 340282366920938463463374607431768211456 = p.1 + (S.b - p.2) := Nat.mod_eq_of_lt ct
        by_cases d2 : p.2 < S.b
        · have d2' : (p.2 < S.b) = True := eq_true d2
          rw [Nat.max_eq_right (Nat.le_of_lt d2)] at cs
          simp only [go_sem, kn1, kn2, kn3, kn4, kn5, kn6, kn7, kn8, kn9, kz1, kz2, kz3, kz4, kz5, kz6, kz7, kz8, kz9, kz0, reduceCtorEq, String.reduceEq, kn0, kq1, kq2, kq3, kq4, Int.toNat_natCast, c', f3, f4, hS, hp, d1', d2', ad, cmpN_lt', cmpN_gt']
          exact ⟨by omega, fun _ _ _ _ => ⟨by omega, k + 1, by omega, ⟨by omega, by rw [cs]; exact ⟨⟨rfl, rfl⟩, rfl, rfl⟩⟩, by omega⟩⟩
        · have d2' : (p.2 < S.b) = False := eq_false d2
          rw [Nat.max_eq_left (by omega)] at cs
          simp only [go_sem, kn1, kn2, kn3, kn4, kn5, kn6, kn7, kn8, kn9, kz1, kz2, kz3, kz4, kz5, kz6, kz7, kz8, kz9, kz0, reduceCtorEq, String.reduceEq, kn0, kq1, kq2, kq3, kq4, Int.toNat_natCast, c', f3, f4, hS, hp, d1', d2', ad, cmpN_lt', cmpN_gt']
          exact ⟨by omega, fun _ _ _ _ => ⟨by omega, k + 1, by omega, ⟨by omega, by rw [cs]; exact ⟨⟨rfl, rfl⟩, rfl, rfl⟩⟩, by omega⟩⟩
      · have d1' : (S.a < p.2) = False := eq_false d1
        rw [Nat.max_eq_left (by omega)] at ct cs
        have ad : (p.1 + (S.b - S.a)) % 340282366920938463463374607431768211456 = p.1 + (S.b - S.a) := Nat.mod_eq_of_lt ct
        by_cases d2 : p.2 < S.b
        · have d2' : (p.2 < S.b) = True := eq_true d2
          rw [Nat.max_eq_right (Nat.le_of_lt d2)] at cs
          simp only [go_sem, kn1, kn2, kn3, kn4, kn5, kn6, kn7, kn8, kn9, kz1, kz2, kz3, kz4, kz5, kz6, kz7, kz8, kz9, kz0, reduceCtorEq, String.reduceEq, kn0, kq1, kq2, kq3, kq4, Int.toNat_natCast, c', f3, f4, hS, hp, d1', d2', ad, cmpN_lt', cmpN_gt']
          exact ⟨by omega, fun _ _ _ _ => ⟨by omega, k + 1, by omega, ⟨by omega, by rw [cs]; exact ⟨⟨rfl, rfl⟩, rfl, rfl⟩⟩, by omega⟩⟩
        · have d2' : (p.2 < S.b) = False := eq_false d2
          rw [Nat.max_eq_left (by omega)] at cs
          simp only [go_sem, kn1, kn2, kn3, kn4, kn5, kn6, kn7, kn8, kn9, kz1, kz2, kz3, kz4, kz5, kz6, kz7, kz8, kz9, kz0, reduceCtorEq, String.reduceEq, kn0, kq1, kq2, kq3, kq4, Int.toNat_natCast, c', f3, f4, hS, hp, d1', d2', ad, cmpN_lt', cmpN_gt']
          exact ⟨by omega, fun _ _ _ _ => ⟨by omega, k + 1, by omega, ⟨by omega, by rw [cs]; exact ⟨⟨rfl, rfl⟩, rfl, rfl⟩⟩, by omega⟩⟩
    · have c' : ((k : Int) < (ys.length : Int)) = False := eq_false (by omega)
      have ek : k = ys.length := by omega
      subst ek
      have e2 := covF_sorted g2 g3
      simp only [go_sem, kn1, kn2, kn3, kn4, kn5, kn6, kn7, kn8, kn9, kz1, kz2, kz3, kz4, kz5, kz6, kz7, kz8, kz9, kz0, reduceCtorEq, String.reduceEq, kn0, kq1, kq2, kq3, kq4, Int.toNat_natCast, c', e2]
      exact .put hid (.refl _)
end Go.Proofs.Ytlcnohmnemmbdaa.I
