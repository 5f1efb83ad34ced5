/- The reference of layer 15: Apart, without, Cover, Twice. -/
import Derived.Test.YtlcnohmnemmbdaaSpan12
import Derived.Test.YtlcnohmnemmbdaaMeas2
namespace Go.Proofs.Ytlcnohmnemmbdaa.I
open Go
open Nat renaming reduceEqDiff → kn1, reduceBEq → kn2, reducePow → kn3, reduceMod → kn4, reduceAdd → kn5, reduceSub → kn6, reduceMul → kn7, reduceDiv → kn8, reduceLeDiff → kn9, reduceLT → kn0, zero_lt_one → kq1, zero_add → kq2, zero_le → kq3, le_refl → kq4
open Int renaming reduceToNat → kz1, reduceAdd → kz2, reduceSub → kz3, reduceMul → kz4, reduceDiv → kz5, reduceMod → kz6, reduceLE → kz7, reduceLT → kz8, reduceNeg → kz9, reduceEq → kz0
set_option maxRecDepth 10000
set_option linter.unusedSimpArgs false
set_option linter.unusedVariables false

theorem apart_snoc {l : List D2} {s : D2} (h : apart l) (h1 : s.a ≤ s.b) (h2 : ∀ x ∈ l, ¬ meets s x) : apart (l ++ [s]) := by
  refine ⟨fun x hx => ?_, ?_⟩
  · rcases List.mem_append.1 hx with hx | hx
    · exact h.1 x hx
    · rw [List.mem_singleton.1 hx]; exact h1
  · rw [List.pairwise_append]
    refine ⟨h.2, List.pairwise_singleton _ _, fun x hx y hy => ?_⟩
    rw [List.mem_singleton.1 hy]
    exact fun m => h2 x hx ((meets_comm _ _).1 m)
@[go_sem] noncomputable def c_ref15_Apart : Cn := fn1 (tL t2) (fun l => l.length ≤ 1000) fun l => .b (apartB l)
noncomputable def cx_ref15_Apart : Cx := { T := T, E := E, cs := [(14, c_ref15_Right), (20, c_ref15_Meet)], sch := [(9, false, .take 0 (.take 1 (.take 2 (.take 3 (.take 4 (.take 5 (.take 6 (.take 7 (.alt 8 (.done) .no)))))))))], ob := [], qs := [14, 20] }
@[go_sem] theorem cx_ref15_Apart_e : cx_ref15_Apart.gs = none ∧ cx_ref15_Apart.md = 0 ∧ cx_ref15_Apart.T = T ∧ cx_ref15_Apart.E = E ∧ cx_ref15_Apart.cs = [(14, c_ref15_Right), (20, c_ref15_Meet)] ∧ cx_ref15_Apart.sch = [(9, false, .take 0 (.take 1 (.take 2 (.take 3 (.take 4 (.take 5 (.take 6 (.take 7 (.alt 8 (.done) .no)))))))))] ∧ ∀ d, (cx_ref15_Apart.ob).contains d = false := ⟨rfl, rfl, rfl, rfl, rfl, rfl, fun _ => rfl⟩
theorem cok_ref15_Apart : COk Try.prog (cx_ref15_Apart) := cok_of rfl (.cons ok_ref15_Right (.cons ok_ref15_Meet (.nil))) (.cons (fun _ => fn1_quiet) (.cons (fun _ => fn2_quiet) (.nil))) (.nil)
set_option maxHeartbeats 1000000 in
theorem ok_ref15_Apart : Ok Try.prog 22 c_ref15_Apart := by
  refine ok_fn1 cok_ref15_Apart mixed Try.func22 rfl (by kernel_rfl) (by kernel_rfl) rfl ?_
  intro l om hw hl
  simp only [go_sem, Try.f22, kn1, kn2, kn3, kn4, kn5, kn6, kn7, kn8, kn9, kz1, kz2, kz3, kz4, kz5, kz6, kz7, kz8, kz9, kz0, reduceCtorEq, String.reduceEq, kn0, kq1, kq2, kq3, kq4, Int.toNat_natCast]
  refine ⟨Nat, fun k => ⟨[.sl (els v2 l), .u, .b false, .z k, .u, .u, .u, .u, .u, .u, .u, .u, .u, .u, .u, .u, .u, .u, .u, .u, .u, .u, .u, .u, .u, .u, .u, .u, .u, .u, .u], [], om⟩, fun k => k ≤ l.length ∧ apart (l.take k), fun k => l.length - k, ⟨0, ⟨Nat.zero_le _, ⟨fun x hx => absurd hx List.not_mem_nil, .nil⟩⟩, ?_⟩, ?_⟩
  · simp only [go_sem, kn1, kn2, kn3, kn4, kn5, kn6, kn7, kn8, kn9, kz1, kz2, kz3, kz4, kz5, kz6, kz7, kz8, kz9, kz0, reduceCtorEq, String.reduceEq, kn0, kq1, kq2, kq3, kq4, Int.toNat_natCast]
  · rintro i ⟨hi, hp⟩
    by_cases c : i < l.length
    · have c' : ((i : Int) < (l.length : Int)) = True := eq_true (by omega)
      obtain ⟨S, hS⟩ : ∃ S, l.getD i z2 = S := ⟨_, rfl⟩
      have hm : S ∈ l := by rw [← hS, List.getD_eq_getElem?_getD, List.getElem?_eq_getElem c]; exact List.getElem_mem c
      by_cases c2 : S.a ≤ S.b
      · have c2' := eq_true c2
        simp only [go_sem, kn1, kn2, kn3, kn4, kn5, kn6, kn7, kn8, kn9, kz1, kz2, kz3, kz4, kz5, kz6, kz7, kz8, kz9, kz0, reduceCtorEq, String.reduceEq, kn0, kq1, kq2, kq3, kq4, Int.toNat_natCast, c', e2_get, hS, c2']
        refine ⟨by omega, Nat, fun k => ⟨[.sl (els v2 l), .u, .b false, .z i, .z k, .u, .u, .u, .u, .u, .u, .u, .u, .u, .u, .u, .u, .u, .u, .u, .u, .u, .u, .u, .u, .u, .u, .u, .u, .u, .u], [], om⟩, fun k => k ≤ i ∧ ∀ j, j < k → ¬ meets S (l.getD j z2), fun k => i - k, ⟨0, ⟨Nat.zero_le _, fun j h => by omega⟩, ?_⟩, ?_⟩
        · simp only [go_sem, kn1, kn2, kn3, kn4, kn5, kn6, kn7, kn8, kn9, kz1, kz2, kz3, kz4, kz5, kz6, kz7, kz8, kz9, kz0, reduceCtorEq, String.reduceEq, kn0, kq1, kq2, kq3, kq4, Int.toNat_natCast]
        · rintro k ⟨hk, hq⟩
          by_cases c3 : k < i
          · have c3' : ((k : Int) < (i : Int)) = True := eq_true (by omega)
            by_cases c4 : meets S (l.getD k z2)
            · have c4' := eq_true c4
              have e : apartB l = false := apartB_no fun h => by
                have := (List.pairwise_iff_getElem.1 h.2) k i (by omega) c c3
                apply this
                rw [← hS, List.getD_eq_getElem?_getD, List.getD_eq_getElem?_getD, List.getElem?_eq_getElem c, List.getElem?_eq_getElem (by omega : k < l.length)] at c4
                exact (meets_comm _ _).1 c4
              simp only [go_sem, kn1, kn2, kn3, kn4, kn5, kn6, kn7, kn8, kn9, kz1, kz2, kz3, kz4, kz5, kz6, kz7, kz8, kz9, kz0, reduceCtorEq, String.reduceEq, kn0, kq1, kq2, kq3, kq4, Int.toNat_natCast, c3', e2_get, hS, c4', e]
              omega
            · have c4' := eq_false c4
              simp only [go_sem, kn1, kn2, kn3, kn4, kn5, kn6, kn7, kn8, kn9, kz1, kz2, kz3, kz4, kz5, kz6, kz7, kz8, kz9, kz0, reduceCtorEq, String.reduceEq, kn0, kq1, kq2, kq3, kq4, Int.toNat_natCast, c3', e2_get, hS, c4']
              exact ⟨by omega, by omega, by omega, k + 1, ⟨by omega, fun j h => by
                by_cases e : j = k
                · rw [e]; exact c4
                · exact hq j (by omega)⟩, by omega, by omega⟩
          · have c3' : ((k : Int) < (i : Int)) = False := eq_false (by omega)
            simp only [go_sem, kn1, kn2, kn3, kn4, kn5, kn6, kn7, kn8, kn9, kz1, kz2, kz3, kz4, kz5, kz6, kz7, kz8, kz9, kz0, reduceCtorEq, String.reduceEq, kn0, kq1, kq2, kq3, kq4, Int.toNat_natCast, c3']
            refine ⟨by omega, i + 1, ⟨by omega, ?_⟩, by omega, by omega⟩
            rw [take_snoc2 c, hS]
            refine apart_snoc hp c2 fun x hx => ?_
            obtain ⟨j, hj, rfl⟩ := List.getElem_of_mem hx
            have hj' : j < i := by simp at hj; omega
            have := hq j (by omega)
            rw [List.getD_eq_getElem?_getD, List.getElem?_eq_getElem (by omega : j < l.length)] at this
            simpa using this
      · have c2' := eq_false c2
        have e : apartB l = false := apartB_no fun h => c2 (h.1 S hm)
        simp only [go_sem, kn1, kn2, kn3, kn4, kn5, kn6, kn7, kn8, kn9, kz1, kz2, kz3, kz4, kz5, kz6, kz7, kz8, kz9, kz0, reduceCtorEq, String.reduceEq, kn0, kq1, kq2, kq3, kq4, Int.toNat_natCast, c', e2_get, hS, c2', e]
        omega
    · have c' : ((i : Int) < (l.length : Int)) = False := eq_false (by omega)
      have e : apartB l = true := apartB_yes (by rwa [List.take_of_length_le (by omega)] at hp)
      simp only [go_sem, kn1, kn2, kn3, kn4, kn5, kn6, kn7, kn8, kn9, kz1, kz2, kz3, kz4, kz5, kz6, kz7, kz8, kz9, kz0, reduceCtorEq, String.reduceEq, kn0, kq1, kq2, kq3, kq4, Int.toNat_natCast, c', e]
/-- What is left of spans without another one. -/
def less1 (s t : D2) : List D2 := if ¬ meets s t then [s] else (if s.a < t.a then [⟨s.a, t.a⟩] else []) ++ (if t.b < s.b then [⟨t.b, s.b⟩] else [])
def lessL (l : List D2) (t : D2) : List D2 := l.flatMap fun s => less1 s t
theorem less1_has (s t : D2) (n : Nat) : (∃ x ∈ less1 s t, inS x n) ↔ inS s n ∧ ¬ inS t n := by
  unfold less1
  by_cases m : meets s t
  · rw [if_neg (not_not_intro m)]
    unfold meets at m
    by_cases c1 : s.a < t.a <;> by_cases c2 : t.b < s.b <;> simp [c1, c2, inS] <;> omega
  · rw [if_pos m]
    simp only [List.mem_singleton, exists_eq_left]
    exact ⟨fun h => ⟨h, fun g => m ((meets_iff s t).2 ⟨n, h, g⟩)⟩, fun h => h.1⟩
theorem lessL_has (l : List D2) (t : D2) (n : Nat) : inU (lessL l t) n = (inU l n && !decide (inS t n)) := by
  rw [Bool.eq_iff_iff, inU_iff, Bool.and_eq_true, inU_iff]
  unfold lessL
  constructor
  · rintro ⟨x, hx, h⟩
    obtain ⟨s, hs, hx⟩ := List.mem_flatMap.1 hx
    obtain ⟨h1, h2⟩ := (less1_has s t n).1 ⟨x, hx, h⟩
    exact ⟨⟨s, hs, h1⟩, by simpa using h2⟩
  · rintro ⟨⟨s, hs, h1⟩, h2⟩
    obtain ⟨x, hx, h⟩ := (less1_has s t n).2 ⟨h1, by simpa using h2⟩
    exact ⟨x, List.mem_flatMap.2 ⟨s, hs, hx⟩, h⟩
end Go.Proofs.Ytlcnohmnemmbdaa.I
