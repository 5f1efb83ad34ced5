/- Runs of spans merged in place; the stable sort. -/
import Derived.Test.YtlcnohmnemmbdaaSpan6
namespace Go.Proofs.Ytlcnohmnemmbdaa.I
open Go
open Nat renaming reduceEqDiff → kn1, reduceBEq → kn2, reducePow → kn3, reduceMod → kn4, reduceAdd → kn5, reduceSub → kn6, reduceMul → kn7, reduceDiv → kn8, reduceLeDiff → kn9, reduceLT → kn0, zero_lt_one → kq1, zero_add → kq2, zero_le → kq3, le_refl → kq4
open Int renaming reduceToNat → kz1, reduceAdd → kz2, reduceSub → kz3, reduceMul → kz4, reduceDiv → kz5, reduceMod → kz6, reduceLE → kz7, reduceLT → kz8, reduceNeg → kz9, reduceEq → kz0
set_option maxRecDepth 10000
set_option linter.unusedSimpArgs false
set_option linter.unusedVariables false

noncomputable def c_slices_symMergeCmpFunc_span_Span (N : Nat) : Cn
  | [.ow id off len cap, .z a, .z b, .z c, .fn (.func f) [] []], om, K => ∃ (m : List D2) (lo md hi : Nat), InO om id m ∧ off = 0 ∧ f = 58 ∧ a = lo ∧ b = md ∧ c = hi ∧ (lo < md ∧ md < hi ∧ hi ≤ len ∧ hi - lo ≤ N) ∧ (len ≤ m.length ∧ len ≤ 1073741824) ∧ (Srt m lo md ∧ Srt m md hi) ∧ ∀ m', Mix m m' lo hi → Srt m' lo hi → K.k (.tup []) (om.put id (fl m'))
  | _, _, _ => False
theorem c_slices_symMergeCmpFunc_span_Span_mono (N : Nat) : Mono (c_slices_symMergeCmpFunc_span_Span N) := by
  intro args om K K' hK h
  unfold c_slices_symMergeCmpFunc_span_Span at h ⊢
  split at h
  · obtain ⟨m, lo, md, hi, h1, h2, h3, h4, h5, h6, h7, h8, h9, h10⟩ := h
    exact ⟨m, lo, md, hi, h1, h2, h3, h4, h5, h6, h7, h8, h9, fun m' g g' => hK _ _ (h10 m' g g')⟩
  · exact h.elim
noncomputable def cx_sym0 : Cx := { T := T, E := E, cs := [(58, c_span_sorted_2), (65, c_slices_rotateCmpFunc_span_Span)], sch := [(5, false, .take 0 (.take 1 (.take 2 (.take 3 (.take 4 (.take 5 (.take 6 (.take 7 (.take 8 (.alt 9 (.take 10 (.done)) .no)))))))))), (11, false, .take 0 (.take 1 (.take 2 (.take 3 (.take 4 (.take 5 (.take 6 (.take 7 (.take 8 (.take 9 (.take 10 (.take 11 (.alt 12 (.take 13 (.take 14 (.alt 15 (.take 16 (.alt 17 (.done) .no)) .no))) .no))))))))))))), (17, false, .take 0 (.take 1 (.take 2 (.take 3 (.take 4 (.take 5 (.take 6 (.take 7 (.take 8 (.alt 9 (.take 10 (.take 11 (.done))) .no)))))))))), (23, false, .take 0 (.take 1 (.take 2 (.take 3 (.take 4 (.take 5 (.take 6 (.take 7 (.take 8 (.take 9 (.take 10 (.take 11 (.alt 12 (.take 13 (.take 14 (.alt 15 (.take 16 (.alt 17 (.done) .no)) .no))) .no))))))))))))), (35, false, .take 0 (.take 1 (.take 2 (.take 3 (.take 4 (.take 5 (.take 6 (.take 7 (.take 8 (.take 9 (.take 10 (.alt 11 (.take 12 (.take 13 (.done))) .no))))))))))))], ob := [], qs := [58], md := 2 }
@[go_sem] theorem cx_sym0_e : cx_sym0.gs = none ∧ cx_sym0.md = 2 ∧ cx_sym0.T = T ∧ cx_sym0.E = E ∧ cx_sym0.cs = [(58, c_span_sorted_2), (65, c_slices_rotateCmpFunc_span_Span)] ∧ cx_sym0.sch = [(5, false, .take 0 (.take 1 (.take 2 (.take 3 (.take 4 (.take 5 (.take 6 (.take 7 (.take 8 (.alt 9 (.take 10 (.done)) .no)))))))))), (11, false, .take 0 (.take 1 (.take 2 (.take 3 (.take 4 (.take 5 (.take 6 (.take 7 (.take 8 (.take 9 (.take 10 (.take 11 (.alt 12 (.take 13 (.take 14 (.alt 15 (.take 16 (.alt 17 (.done) .no)) .no))) .no))))))))))))), (17, false, .take 0 (.take 1 (.take 2 (.take 3 (.take 4 (.take 5 (.take 6 (.take 7 (.take 8 (.alt 9 (.take 10 (.take 11 (.done))) .no)))))))))), (23, false, .take 0 (.take 1 (.take 2 (.take 3 (.take 4 (.take 5 (.take 6 (.take 7 (.take 8 (.take 9 (.take 10 (.take 11 (.alt 12 (.take 13 (.take 14 (.alt 15 (.take 16 (.alt 17 (.done) .no)) .no))) .no))))))))))))), (35, false, .take 0 (.take 1 (.take 2 (.take 3 (.take 4 (.take 5 (.take 6 (.take 7 (.take 8 (.take 9 (.take 10 (.alt 11 (.take 12 (.take 13 (.done))) .no))))))))))))] ∧ ∀ d, (cx_sym0.ob).contains d = false := ⟨rfl, rfl, rfl, rfl, rfl, rfl, fun _ => rfl⟩
theorem cok_sym0 : COk Try.prog (cx_sym0) := cok_of rfl (.cons ok_span_sorted_2 (.cons ok_slices_rotateCmpFunc_span_Span (.nil))) (.cons (fun _ => fn2_quiet) (.cons (fun h => absurd h (by decide)) (.nil))) (.nil)
theorem ok_sym0 : Ok Try.prog 64 (c_slices_symMergeCmpFunc_span_Span 0) := by
  refine ok_of_body1 cok_sym0 mixed Try.func64 rfl (by kernel_rfl) (by kernel_rfl) (c_slices_symMergeCmpFunc_span_Span_mono 0) fun args om Q hw h => ?_
  unfold c_slices_symMergeCmpFunc_span_Span at h
  split at h <;> first | exact h.elim | skip
  obtain ⟨m, lo, md, hi, _, _, _, _, _, _, h, _⟩ := h
  omega
noncomputable def cx_slices_symMergeCmpFunc_span_Span (N : Nat) : Cx := { T := T, E := E, cs := [(58, c_span_sorted_2), (64, c_slices_symMergeCmpFunc_span_Span N), (65, c_slices_rotateCmpFunc_span_Span)], sch := [(5, false, .take 0 (.take 1 (.take 2 (.take 3 (.take 4 (.take 5 (.take 6 (.take 7 (.take 8 (.alt 9 (.take 10 (.done)) .no)))))))))), (11, false, .take 0 (.take 1 (.take 2 (.take 3 (.take 4 (.take 5 (.take 6 (.take 7 (.take 8 (.take 9 (.take 10 (.take 11 (.alt 12 (.take 13 (.take 14 (.alt 15 (.take 16 (.alt 17 (.done) .no)) .no))) .no))))))))))))), (17, false, .take 0 (.take 1 (.take 2 (.take 3 (.take 4 (.take 5 (.take 6 (.take 7 (.take 8 (.alt 9 (.take 10 (.take 11 (.done))) .no)))))))))), (23, false, .take 0 (.take 1 (.take 2 (.take 3 (.take 4 (.take 5 (.take 6 (.take 7 (.take 8 (.take 9 (.take 10 (.take 11 (.alt 12 (.take 13 (.take 14 (.alt 15 (.take 16 (.alt 17 (.done) .no)) .no))) .no))))))))))))), (35, false, .take 0 (.take 1 (.take 2 (.take 3 (.take 4 (.take 5 (.take 6 (.take 7 (.take 8 (.take 9 (.take 10 (.alt 11 (.take 12 (.take 13 (.done))) .no))))))))))))], ob := [], qs := [58], md := 2 }
@[go_sem] theorem cx_slices_symMergeCmpFunc_span_Span_e (N : Nat) : (cx_slices_symMergeCmpFunc_span_Span N).gs = none ∧ (cx_slices_symMergeCmpFunc_span_Span N).md = 2 ∧ (cx_slices_symMergeCmpFunc_span_Span N).T = T ∧ (cx_slices_symMergeCmpFunc_span_Span N).E = E ∧ (cx_slices_symMergeCmpFunc_span_Span N).cs = [(58, c_span_sorted_2), (64, c_slices_symMergeCmpFunc_span_Span N), (65, c_slices_rotateCmpFunc_span_Span)] ∧ (cx_slices_symMergeCmpFunc_span_Span N).sch = [(5, false, .take 0 (.take 1 (.take 2 (.take 3 (.take 4 (.take 5 (.take 6 (.take 7 (.take 8 (.alt 9 (.take 10 (.done)) .no)))))))))), (11, false, .take 0 (.take 1 (.take 2 (.take 3 (.take 4 (.take 5 (.take 6 (.take 7 (.take 8 (.take 9 (.take 10 (.take 11 (.alt 12 (.take 13 (.take 14 (.alt 15 (.take 16 (.alt 17 (.done) .no)) .no))) .no))))))))))))), (17, false, .take 0 (.take 1 (.take 2 (.take 3 (.take 4 (.take 5 (.take 6 (.take 7 (.take 8 (.alt 9 (.take 10 (.take 11 (.done))) .no)))))))))), (23, false, .take 0 (.take 1 (.take 2 (.take 3 (.take 4 (.take 5 (.take 6 (.take 7 (.take 8 (.take 9 (.take 10 (.take 11 (.alt 12 (.take 13 (.take 14 (.alt 15 (.take 16 (.alt 17 (.done) .no)) .no))) .no))))))))))))), (35, false, .take 0 (.take 1 (.take 2 (.take 3 (.take 4 (.take 5 (.take 6 (.take 7 (.take 8 (.take 9 (.take 10 (.alt 11 (.take 12 (.take 13 (.done))) .no))))))))))))] ∧ ∀ d, ((cx_slices_symMergeCmpFunc_span_Span N).ob).contains d = false := ⟨rfl, rfl, rfl, rfl, rfl, rfl, fun _ => rfl⟩
theorem cok_slices_symMergeCmpFunc_span_Span (N : Nat) (ih : Ok Try.prog 64 (c_slices_symMergeCmpFunc_span_Span N)) : COk Try.prog (cx_slices_symMergeCmpFunc_span_Span N) := cok_of rfl (.cons ok_span_sorted_2 (.cons ih (.cons ok_slices_rotateCmpFunc_span_Span (.nil)))) (.cons (fun _ => fn2_quiet) (.cons (fun h => Bool.noConfusion (show false = true from h)) (.cons (fun h => Bool.noConfusion (show false = true from h)) (.nil)))) (.nil)
set_option maxHeartbeats 4000000 in
theorem ok_symS (N : Nat) (ih : Ok Try.prog 64 (c_slices_symMergeCmpFunc_span_Span N)) : Ok Try.prog 64 (c_slices_symMergeCmpFunc_span_Span (N + 1)) := by
  refine ok_of_body1 (cok_slices_symMergeCmpFunc_span_Span N ih) mixed Try.func64 rfl (by kernel_rfl) (by kernel_rfl) (c_slices_symMergeCmpFunc_span_Span_mono (N + 1)) fun args om Q hw h => ?_
  unfold c_slices_symMergeCmpFunc_span_Span at h
  split at h <;> first | exact h.elim | skip
  rename_i om _ _ _ id off len cap a b c f
  obtain ⟨n, lo, m, hi, ⟨h1, h1'⟩, rfl, rfl, rfl, rfl, rfl, ⟨h2, h3, h4, h5⟩, ⟨h6, h7⟩, ⟨S1, S2⟩, h⟩ := h
  have hb : len ≤ cap ∧ cap ≤ longest := hw.1
  rw [longest_eq] at hb
  by_cases c1 : m = lo + 1
  · subst c1
    have c1' : (((lo + 1 : Nat) : Int) - (lo : Int) = 1) = True := eq_true (by omega)
    simp (maxSteps := 1000000) only [go_sem, Try.f64, kn1, kn2, kn3, kn4, kn5, kn6, kn7, kn8, kn9, kz1, kz2, kz3, kz4, kz5, kz6, kz7, kz8, kz9, kz0, reduceCtorEq, String.reduceEq, kn0, kq1, kq2, kq3, kq4, Int.toNat_natCast, c1']
    refine ⟨by omega, Nat × Nat, fun q => ⟨[.ow id 0 len cap, .z lo, .z (lo + 1 : Nat), .z hi, .fn (.func 58) [] [], .u, .u, .u, .u, .u, .z q.1, .z q.2, .u, .u, .u, .u, .u, .u, .u, .u, .u, .u, .u, .u, .u, .u, .u, .u, .u, .u, .u, .u, .u, .u, .u, .u, .u, .u, .u, .u, .u, .u, .u, .u, .u, .u, .u, .u, .u, .u, .u, .u, .u, .u, .u, .u, .u, .u, .u, .u, .u, .u, .u, .u, .u, .u, .u, .u, .u, .u, .u, .u, .u, .u, .u, .u, .u, .u, .u, .u, .u, .u, .u, .u, .u, .u, .u, .u, .u, .u, .u, .u, .u, .u, .u, .u, .u, .u, .u, .u, .u, .u, .u, .u, .u, .u, .u, .u, .u, .u, .u, .u, .u, .u, .u, .u, .u, .u, .u, .u, .u, .u, .u, .u, .u, .u, .u, .u, .u, .u, .u, .u, .u, .u, .u, .u, .u, .u, .u, .u, .u, .u, .u, .u, .u, .u, .u, .u, .u, .u, .u, .u, .u, .u, .u, .u, .u, .u, .u, .u, .u, .u, .u, .u, .u, .u, .u, .u, .u, .u, .u, .u, .u, .u, .u, .u, .u, .u, .u, .u, .u, .u, .u, .u, .u, .u, .u, .u, .u, .u, .u, .u, .u, .u, .u, .u, .u, .u, .u, .u, .u, .u, .u, .u, .u, .u, .u, .u, .u, .u, .u, .u, .u, .u, .u, .u, .u, .u, .u, .u], [], om⟩,
      fun q => lo + 1 ≤ q.1 ∧ q.1 ≤ q.2 ∧ q.2 ≤ hi ∧ (∀ x, lo + 1 ≤ x → x < q.1 → (n.getD x z2).a < (n.getD lo z2).a) ∧ ∀ x, q.2 ≤ x → x < hi → (n.getD lo z2).a ≤ (n.getD x z2).a, fun q => q.2 - q.1, ⟨(lo + 1, hi), ⟨Nat.le_refl _, by show lo + 1 ≤ hi; omega, Nat.le_refl _, fun x g1 g2 => by have : x < lo + 1 := g2; omega, fun x g1 g2 => by have : hi ≤ x := g1; omega⟩, ?_⟩, ?_⟩
    · simp only [go_sem, kn1, kn2, kn3, kn4, kn5, kn6, kn7, kn8, kn9, kz1, kz2, kz3, kz4, kz5, kz6, kz7, kz8, kz9, kz0, reduceCtorEq, String.reduceEq, kn0, kq1, kq2, kq3, kq4, Int.toNat_natCast]
    · rintro ⟨i, j⟩ ⟨g1, g2, g3, g4, g5⟩
      simp only at g1 g2 g3 g4 g5
      by_cases c2 : i < j
      · have c2' : ((i : Int) < (j : Int)) = True := eq_true (by omega)
        have eh : (((i : Int) + (j : Int)) % 18446744073709551616).toNat >>> 1 = (i + j) / 2 := by rw [Nat.shiftRight_eq_div_pow]; omega
        have f1 := fl_has (l := n) (i := (i + j) / 2) (by omega)
        have f2 := fl_get (l := n) (i := (i + j) / 2) (by omega)
        have f3 := fl_has (l := n) (i := lo) (by omega)
        have f4 := fl_get (l := n) (i := lo) (by omega)
        simp (maxSteps := 1000000) only [go_sem, kn1, kn2, kn3, kn4, kn5, kn6, kn7, kn8, kn9, kz1, kz2, kz3, kz4, kz5, kz6, kz7, kz8, kz9, kz0, reduceCtorEq, String.reduceEq, kn0, kq1, kq2, kq3, kq4, Int.toNat_natCast, c2', eh, h1, f1, f2, f3, f4, cmpN_lt']
        refine ⟨by omega, by omega, by omega, by omega, fun _ => ⟨fun q => ⟨by omega, ((i + j) / 2 + 1, j), ⟨by show lo + 1 ≤ (i + j) / 2 + 1; omega, by show (i + j) / 2 + 1 ≤ j; omega, g3, fun x k1 k2 => ?_, g5⟩, ⟨by show _ = (((i + j) / 2 + 1 : Nat) : Int); omega, rfl⟩, by show j - ((i + j) / 2 + 1) < j - i; omega⟩,
          fun q => ⟨(i, (i + j) / 2), ⟨g1, by show i ≤ (i + j) / 2; omega, by show (i + j) / 2 ≤ hi; omega, g4, fun x k1 k2 => ?_⟩, ⟨rfl, rfl⟩, by show (i + j) / 2 - i < j - i; omega⟩⟩⟩
        · have k2' : x < (i + j) / 2 + 1 := k2
          by_cases e : x = (i + j) / 2
          · rw [e]; exact q
          · exact Nat.lt_of_le_of_lt (S2 x _ k1 (by omega) (by omega)) q
        · have k1' : (i + j) / 2 ≤ x := k1
          by_cases e : x = (i + j) / 2
          · rw [e]; exact Nat.le_of_not_lt q
          · exact Nat.le_trans (Nat.le_of_not_lt q) (S2 _ x (by omega) (by omega) k2)
      · have c2' : ((i : Int) < (j : Int)) = False := eq_false (by omega)
        simp (maxSteps := 1000000) only [go_sem, kn1, kn2, kn3, kn4, kn5, kn6, kn7, kn8, kn9, kz1, kz2, kz3, kz4, kz5, kz6, kz7, kz8, kz9, kz0, reduceCtorEq, String.reduceEq, kn0, kq1, kq2, kq3, kq4, Int.toNat_natCast, c2']
        refine ⟨Nat, fun k => ⟨[.ow id 0 len cap, .z lo, .z (lo + 1 : Nat), .z hi, .fn (.func 58) [] [], .u, .u, .u, .u, .u, .z i, .u, .u, .z k, .u, .u, .u, .u, .u, .u, .u, .u, .u, .u, .u, .u, .u, .u, .u, .u, .u, .u, .u, .u, .u, .u, .u, .u, .u, .u, .u, .u, .u, .u, .u, .u, .u, .u, .u, .u, .u, .u, .u, .u, .u, .u, .u, .u, .u, .u, .u, .u, .u, .u, .u, .u, .u, .u, .u, .u, .u, .u, .u, .u, .u, .u, .u, .u, .u, .u, .u, .u, .u, .u, .u, .u, .u, .u, .u, .u, .u, .u, .u, .u, .u, .u, .u, .u, .u, .u, .u, .u, .u, .u, .u, .u, .u, .u, .u, .u, .u, .u, .u, .u, .u, .u, .u, .u, .u, .u, .u, .u, .u, .u, .u, .u, .u, .u, .u, .u, .u, .u, .u, .u, .u, .u, .u, .u, .u, .u, .u, .u, .u, .u, .u, .u, .u, .u, .u, .u, .u, .u, .u, .u, .u, .u, .u, .u, .u, .u, .u, .u, .u, .u, .u, .u, .u, .u, .u, .u, .u, .u, .u, .u, .u, .u, .u, .u, .u, .u, .u, .u, .u, .u, .u, .u, .u, .u, .u, .u, .u, .u, .u, .u, .u, .u, .u, .u, .u, .u, .u, .u, .u, .u, .u, .u, .u, .u, .u, .u, .u, .u, .u, .u, .u, .u, .u, .u, .u, .u], [], om.put id (fl (rota n lo (lo + 1) (k + 1)))⟩,
          fun k => lo ≤ k ∧ k + 1 ≤ i, fun k => i - k, ⟨lo, ⟨Nat.le_refl _, g1⟩, ?_⟩, ?_⟩
        · simp only [go_sem, kn1, kn2, kn3, kn4, kn5, kn6, kn7, kn8, kn9, kz1, kz2, kz3, kz4, kz5, kz6, kz7, kz8, kz9, kz0, reduceCtorEq, String.reduceEq, kn0, kq1, kq2, kq3, kq4, Int.toNat_natCast]
          rw [rota_no (by omega) (by omega) (by omega) (.inr rfl), om_put_self h1]; exact .refl _
        · rintro k ⟨k1, k2⟩
          have rl := (rota_perm (m := n) (lo := lo) (md := lo + 1) (hi := k + 1) (by omega) (by omega) (by omega)).length_eq
          obtain ⟨L, hL⟩ : ∃ L, rota n lo (lo + 1) (k + 1) = L := ⟨_, rfl⟩
          rw [hL] at rl
          by_cases c3 : k + 1 < i
          · have c3' : ((k : Int) < (i : Int) - 1) = True := eq_true (by omega)
            have ek : ((k : Int) + 1).toNat = k + 1 := by omega
            have f1 := fl_has (l := L) (i := k + 1) (by omega)
            have f2 := fl_get (l := L) (i := k + 1) (by omega)
            have f3 := fl_has (l := L) (i := k) (by omega)
            have f4 := fl_get (l := L) (i := k) (by omega)
            have f5 := fl_set (l := L) (i := k) (by omega) (L.getD (k + 1) z2)
            have f6 := fl_has (l := L.set k (L.getD (k + 1) z2)) (i := k + 1) (by simp; omega)
            have f7 := fl_set (l := L.set k (L.getD (k + 1) z2)) (i := k + 1) (by simp; omega) (L.getD k z2)
            simp (maxSteps := 1000000) only [go_sem, kn1, kn2, kn3, kn4, kn5, kn6, kn7, kn8, kn9, kz1, kz2, kz3, kz4, kz5, kz6, kz7, kz8, kz9, kz0, reduceCtorEq, String.reduceEq, kn0, kq1, kq2, kq3, kq4, Int.toNat_natCast, c3', ek, hL, f1, f2, f3, f4, f5, f6, f7]
            refine ⟨by omega, by omega, by omega, by omega, by omega, by omega, by omega, by omega, k + 1, by omega, ⟨by omega, ?_⟩, by omega⟩
            rw [show (L.set k (L.getD (k + 1) z2)).set (k + 1) (L.getD k z2) = rota n lo (lo + 1) (k + 1 + 1) from ext2 (by rw [(rota_perm (by omega) (by omega) (by omega)).length_eq]; simpa using rl) fun p => by
              rw [show (L.set k (L.getD (k + 1) z2)).set (k + 1) (L.getD k z2) = swp L k (k + 1) from rfl, swp_getD L (by omega) (by omega), ← hL, rota_getD (by omega) (by omega) (by omega) k, rota_getD (by omega) (by omega) (by omega) (k + 1), rota_getD (by omega) (by omega) (by omega) p, rota_getD (by omega) (by omega) (by omega) p]
              repeat' split
              all_goals first | rfl | omega | (congr 1; omega)]
            exact .refl _
          · have c3' : ((k : Int) < (i : Int) - 1) = False := eq_false (by omega)
            have ei : k + 1 = i := by omega
            simp (maxSteps := 1000000) only [go_sem, kn1, kn2, kn3, kn4, kn5, kn6, kn7, kn8, kn9, kz1, kz2, kz3, kz4, kz5, kz6, kz7, kz8, kz9, kz0, reduceCtorEq, String.reduceEq, kn0, kq1, kq2, kq3, kq4, Int.toNat_natCast, c3']
            refine ⟨by omega, ?_⟩
            rw [ei]
            exact h _ ((rota_mix (by omega) (by omega) (by omega)).wide (by omega) (by omega)) (rota_srt (by omega) (by omega) (by omega) (by omega) (by omega) S1 S2 (fun x y q1 q2 _ _ => by omega) (fun y u q1 q2 q3 q4 => by rw [show u = lo by omega]; exact Nat.le_of_lt (g4 y q1 q2)) fun u v q1 q2 q3 q4 => by rw [show u = lo by omega]; exact g5 v (by omega) q4)
  have c1' : ((m : Int) - (lo : Int) = 1) = False := eq_false (by omega)
  by_cases c2 : hi = m + 1
  · subst c2
    have c2' : (((m + 1 : Nat) : Int) - (m : Int) = 1) = True := eq_true (by omega)
    simp (maxSteps := 1000000) only [go_sem, Try.f64, kn1, kn2, kn3, kn4, kn5, kn6, kn7, kn8, kn9, kz1, kz2, kz3, kz4, kz5, kz6, kz7, kz8, kz9, kz0, reduceCtorEq, String.reduceEq, kn0, kq1, kq2, kq3, kq4, Int.toNat_natCast, c1', c2']
    refine ⟨by omega, by omega, Nat × Nat, fun q => ⟨[.ow id 0 len cap, .z lo, .z m, .z (m + 1 : Nat), .fn (.func 58) [] [], .u, .u, .u, .u, .u, .u, .u, .u, .u, .z q.1, .z q.2, .u, .u, .u, .u, .u, .u, .u, .u, .u, .u, .u, .u, .u, .u, .u, .u, .u, .u, .u, .u, .u, .u, .u, .u, .u, .u, .u, .u, .u, .u, .u, .u, .u, .u, .u, .u, .u, .u, .u, .u, .u, .u, .u, .u, .u, .u, .u, .u, .u, .u, .u, .u, .u, .u, .u, .u, .u, .u, .u, .u, .u, .u, .u, .u, .u, .u, .u, .u, .u, .u, .u, .u, .u, .u, .u, .u, .u, .u, .u, .u, .u, .u, .u, .u, .u, .u, .u, .u, .u, .u, .u, .u, .u, .u, .u, .u, .u, .u, .u, .u, .u, .u, .u, .u, .u, .u, .u, .u, .u, .u, .u, .u, .u, .u, .u, .u, .u, .u, .u, .u, .u, .u, .u, .u, .u, .u, .u, .u, .u, .u, .u, .u, .u, .u, .u, .u, .u, .u, .u, .u, .u, .u, .u, .u, .u, .u, .u, .u, .u, .u, .u, .u, .u, .u, .u, .u, .u, .u, .u, .u, .u, .u, .u, .u, .u, .u, .u, .u, .u, .u, .u, .u, .u, .u, .u, .u, .u, .u, .u, .u, .u, .u, .u, .u, .u, .u, .u, .u, .u, .u, .u, .u, .u, .u, .u, .u, .u, .u, .u, .u, .u, .u, .u, .u], [], om⟩,
      fun q => lo ≤ q.1 ∧ q.1 ≤ q.2 ∧ q.2 ≤ m ∧ (∀ x, lo ≤ x → x < q.1 → (n.getD x z2).a ≤ (n.getD m z2).a) ∧ ∀ x, q.2 ≤ x → x < m → (n.getD m z2).a < (n.getD x z2).a, fun q => q.2 - q.1, ⟨(lo, m), ⟨Nat.le_refl _, by show lo ≤ m; omega, Nat.le_refl _, fun x g1 g2 => by have : x < lo := g2; omega, fun x g1 g2 => by have : m ≤ x := g1; omega⟩, ?_⟩, ?_⟩
    · simp only [go_sem, kn1, kn2, kn3, kn4, kn5, kn6, kn7, kn8, kn9, kz1, kz2, kz3, kz4, kz5, kz6, kz7, kz8, kz9, kz0, reduceCtorEq, String.reduceEq, kn0, kq1, kq2, kq3, kq4, Int.toNat_natCast]
    · rintro ⟨i, j⟩ ⟨g1, g2, g3, g4, g5⟩
      simp only at g1 g2 g3 g4 g5
      by_cases c2 : i < j
      · have c2' : ((i : Int) < (j : Int)) = True := eq_true (by omega)
        have eh : (((i : Int) + (j : Int)) % 18446744073709551616).toNat >>> 1 = (i + j) / 2 := by rw [Nat.shiftRight_eq_div_pow]; omega
        have f1 := fl_has (l := n) (i := (i + j) / 2) (by omega)
        have f2 := fl_get (l := n) (i := (i + j) / 2) (by omega)
        have f3 := fl_has (l := n) (i := m) (by omega)
        have f4 := fl_get (l := n) (i := m) (by omega)
        simp (maxSteps := 1000000) only [go_sem, kn1, kn2, kn3, kn4, kn5, kn6, kn7, kn8, kn9, kz1, kz2, kz3, kz4, kz5, kz6, kz7, kz8, kz9, kz0, reduceCtorEq, String.reduceEq, kn0, kq1, kq2, kq3, kq4, Int.toNat_natCast, c2', eh, h1, f1, f2, f3, f4, cmpN_lt']
        refine ⟨by omega, by omega, by omega, by omega, fun _ => ⟨fun q => ⟨(i, (i + j) / 2), ⟨g1, by show i ≤ (i + j) / 2; omega, by show (i + j) / 2 ≤ m; omega, g4, fun x k1 k2 => ?_⟩, ⟨rfl, rfl⟩, by show (i + j) / 2 - i < j - i; omega⟩,
          fun q => ⟨by omega, ((i + j) / 2 + 1, j), ⟨by show lo ≤ (i + j) / 2 + 1; omega, by show (i + j) / 2 + 1 ≤ j; omega, g3, fun x k1 k2 => ?_, g5⟩, ⟨by show _ = (((i + j) / 2 + 1 : Nat) : Int); omega, rfl⟩, by show j - ((i + j) / 2 + 1) < j - i; omega⟩⟩⟩
        · have k1' : (i + j) / 2 ≤ x := k1
          by_cases e : x = (i + j) / 2
          · rw [e]; exact q
          · exact Nat.lt_of_lt_of_le q (S1 _ x (by omega) (by omega) k2)
        · have k2' : x < (i + j) / 2 + 1 := k2
          by_cases e : x = (i + j) / 2
          · rw [e]; exact Nat.le_of_not_lt q
          · exact Nat.le_trans (S1 x _ k1 (by omega) (by omega)) (Nat.le_of_not_lt q)
      · have c2' : ((i : Int) < (j : Int)) = False := eq_false (by omega)
        simp (maxSteps := 1000000) only [go_sem, kn1, kn2, kn3, kn4, kn5, kn6, kn7, kn8, kn9, kz1, kz2, kz3, kz4, kz5, kz6, kz7, kz8, kz9, kz0, reduceCtorEq, String.reduceEq, kn0, kq1, kq2, kq3, kq4, Int.toNat_natCast, c2']
        refine ⟨Nat, fun k => ⟨[.ow id 0 len cap, .z lo, .z m, .z (m + 1 : Nat), .fn (.func 58) [] [], .u, .u, .u, .u, .u, .u, .u, .u, .u, .z i, .u, .u, .z k, .u, .u, .u, .u, .u, .u, .u, .u, .u, .u, .u, .u, .u, .u, .u, .u, .u, .u, .u, .u, .u, .u, .u, .u, .u, .u, .u, .u, .u, .u, .u, .u, .u, .u, .u, .u, .u, .u, .u, .u, .u, .u, .u, .u, .u, .u, .u, .u, .u, .u, .u, .u, .u, .u, .u, .u, .u, .u, .u, .u, .u, .u, .u, .u, .u, .u, .u, .u, .u, .u, .u, .u, .u, .u, .u, .u, .u, .u, .u, .u, .u, .u, .u, .u, .u, .u, .u, .u, .u, .u, .u, .u, .u, .u, .u, .u, .u, .u, .u, .u, .u, .u, .u, .u, .u, .u, .u, .u, .u, .u, .u, .u, .u, .u, .u, .u, .u, .u, .u, .u, .u, .u, .u, .u, .u, .u, .u, .u, .u, .u, .u, .u, .u, .u, .u, .u, .u, .u, .u, .u, .u, .u, .u, .u, .u, .u, .u, .u, .u, .u, .u, .u, .u, .u, .u, .u, .u, .u, .u, .u, .u, .u, .u, .u, .u, .u, .u, .u, .u, .u, .u, .u, .u, .u, .u, .u, .u, .u, .u, .u, .u, .u, .u, .u, .u, .u, .u, .u, .u, .u, .u, .u, .u, .u, .u, .u, .u, .u, .u, .u, .u, .u], [], om.put id (fl (rota n k m (m + 1)))⟩,
          fun k => i ≤ k ∧ k ≤ m, fun k => k, ⟨m, ⟨by omega, Nat.le_refl _⟩, ?_⟩, ?_⟩
        · simp only [go_sem, kn1, kn2, kn3, kn4, kn5, kn6, kn7, kn8, kn9, kz1, kz2, kz3, kz4, kz5, kz6, kz7, kz8, kz9, kz0, reduceCtorEq, String.reduceEq, kn0, kq1, kq2, kq3, kq4, Int.toNat_natCast]
          rw [rota_no (by omega) (by omega) (by omega) (.inl rfl), om_put_self h1]; exact .refl _
        · rintro k ⟨k1, k2⟩
          have rl := (rota_perm (m := n) (lo := k) (md := m) (hi := m + 1) (by omega) (by omega) (by omega)).length_eq
          obtain ⟨L, hL⟩ : ∃ L, rota n k m (m + 1) = L := ⟨_, rfl⟩
          rw [hL] at rl
          by_cases c3 : i < k
          · have c3' : ((i : Int) < (k : Int)) = True := eq_true (by omega)
            have ek : ((k : Int) - 1).toNat = k - 1 := by omega
            have f1 := fl_has (l := L) (i := k - 1) (by omega)
            have f2 := fl_get (l := L) (i := k - 1) (by omega)
            have f3 := fl_has (l := L) (i := k) (by omega)
            have f4 := fl_get (l := L) (i := k) (by omega)
            have f5 := fl_set (l := L) (i := k) (by omega) (L.getD (k - 1) z2)
            have f6 := fl_has (l := L.set k (L.getD (k - 1) z2)) (i := k - 1) (by simp; omega)
            have f7 := fl_set (l := L.set k (L.getD (k - 1) z2)) (i := k - 1) (by simp; omega) (L.getD k z2)
            simp (maxSteps := 1000000) only [go_sem, kn1, kn2, kn3, kn4, kn5, kn6, kn7, kn8, kn9, kz1, kz2, kz3, kz4, kz5, kz6, kz7, kz8, kz9, kz0, reduceCtorEq, String.reduceEq, kn0, kq1, kq2, kq3, kq4, Int.toNat_natCast, c3', ek, hL, f1, f2, f3, f4, f5, f6, f7]
            refine ⟨by omega, by omega, by omega, by omega, by omega, by omega, by omega, k - 1, by omega, ⟨by omega, ?_⟩, by omega⟩
            rw [show (L.set k (L.getD (k - 1) z2)).set (k - 1) (L.getD k z2) = rota n (k - 1) m (m + 1) from ext2 (by rw [(rota_perm (by omega) (by omega) (by omega)).length_eq]; simpa using rl) fun p => by
              rw [show (L.set k (L.getD (k - 1) z2)).set (k - 1) (L.getD k z2) = swp L k (k - 1) from rfl, swp_getD L (by omega) (by omega), ← hL, rota_getD (by omega) (by omega) (by omega) k, rota_getD (by omega) (by omega) (by omega) (k - 1), rota_getD (by omega) (by omega) (by omega) p, rota_getD (by omega) (by omega) (by omega) p]
              repeat' split
              all_goals first | rfl | omega | (congr 1; omega)]
            exact .refl _
          · have c3' : ((i : Int) < (k : Int)) = False := eq_false (by omega)
            have ei : k = i := by omega
            simp (maxSteps := 1000000) only [go_sem, kn1, kn2, kn3, kn4, kn5, kn6, kn7, kn8, kn9, kz1, kz2, kz3, kz4, kz5, kz6, kz7, kz8, kz9, kz0, reduceCtorEq, String.reduceEq, kn0, kq1, kq2, kq3, kq4, Int.toNat_natCast, c3']
            rw [ei]
            exact h _ ((rota_mix (by omega) (by omega) (by omega)).wide (by omega) (by omega)) (rota_srt (by omega) (by omega) (by omega) (by omega) (by omega) S1 S2 (fun x y q1 q2 q3 q4 => by rw [show y = m by omega]; exact g4 x q1 q2) (fun y u q1 q2 q3 q4 => by rw [show y = m by omega]; exact Nat.le_of_lt (g5 u (by omega) q4)) fun u v q1 q2 q3 q4 => by omega)
  have c2' : ((hi : Int) - (m : Int) = 1) = False := eq_false (by omega)
  have em : (((lo : Int) + (hi : Int)) % 18446744073709551616).toNat >>> 1 = (lo + hi) / 2 := by rw [Nat.shiftRight_eq_div_pow]; omega
  obtain ⟨mid, hm⟩ : ∃ mid, (lo + hi) / 2 = mid := ⟨_, rfl⟩
  rw [hm] at em
  by_cases c3 : mid < m
  · have c3' : ((mid : Int) < (m : Int)) = True := eq_true (by omega)
    simp (maxSteps := 1000000) only [go_sem, Try.f64, kn1, kn2, kn3, kn4, kn5, kn6, kn7, kn8, kn9, kz1, kz2, kz3, kz4, kz5, kz6, kz7, kz8, kz9, kz0, reduceCtorEq, String.reduceEq, kn0, kq1, kq2, kq3, kq4, Int.toNat_natCast, c1', c2', em, c3']
    refine ⟨by omega, by omega, by omega, by omega, by omega, by omega, by omega, Nat × Nat, fun q => ⟨[.ow id 0 len cap, .z lo, .z m, .z hi, .fn (.func 58) [] [], .u, .u, .u, .u, .u, .u, .u, .u, .u, .u, .u, .u, .u, .z mid, .z ((mid : Int) + m), .z q.1, .z q.2, .z ((mid : Int) + m - 1), .u, .u, .u, .u, .u, .u, .u, .u, .u, .u, .u, .u, .u, .u, .u, .u, .u, .u, .u, .u, .u, .u, .u, .u, .u, .u, .u, .u, .u, .u, .u, .u, .u, .u, .u, .u, .u, .u, .u, .u, .u, .u, .u, .u, .u, .u, .u, .u, .u, .u, .u, .u, .u, .u, .u, .u, .u, .u, .u, .u, .u, .u, .u, .u, .u, .u, .u, .u, .u, .u, .u, .u, .u, .u, .u, .u, .u, .u, .u, .u, .u, .u, .u, .u, .u, .u, .u, .u, .u, .u, .u, .u, .u, .u, .u, .u, .u, .u, .u, .u, .u, .u, .u, .u, .u, .u, .u, .u, .u, .u, .u, .u, .u, .u, .u, .u, .u, .u, .u, .u, .u, .u, .u, .u, .u, .u, .u, .u, .u, .u, .u, .u, .u, .u, .u, .u, .u, .u, .u, .u, .u, .u, .u, .u, .u, .u, .u, .u, .u, .u, .u, .u, .u, .u, .u, .u, .u, .u, .u, .u, .u, .u, .u, .u, .u, .u, .u, .u, .u, .u, .u, .u, .u, .u, .u, .u, .u, .u, .u, .u, .u, .u, .u, .u, .u, .u, .u, .u, .u, .u, .u, .u, .u, .u, .u, .u, .u], [], om⟩,
      fun q => (mid + m - hi) ≤ q.1 ∧ q.1 ≤ q.2 ∧ q.2 ≤ mid ∧ (∀ c, (mid + m - hi) ≤ c → c < q.1 → (n.getD c z2).a ≤ (n.getD (mid + m - 1 - c) z2).a) ∧ ∀ c, q.2 ≤ c → c < mid → (n.getD (mid + m - 1 - c) z2).a < (n.getD c z2).a, fun q => q.2 - q.1, ⟨((mid + m - hi), mid), ⟨Nat.le_refl _, by show (mid + m - hi) ≤ mid; omega, Nat.le_refl _, fun x g1 g2 => by have : x < (mid + m - hi) := g2; omega, fun x g1 g2 => by have : mid ≤ x := g1; omega⟩, ?_⟩, ?_⟩
    · simp only [go_sem, kn1, kn2, kn3, kn4, kn5, kn6, kn7, kn8, kn9, kz1, kz2, kz3, kz4, kz5, kz6, kz7, kz8, kz9, kz0, reduceCtorEq, String.reduceEq, kn0, kq1, kq2, kq3, kq4, Int.toNat_natCast]
      try omega
    · rintro ⟨i, j⟩ ⟨g1, g2, g3, g4, g5⟩
      simp only at g1 g2 g3 g4 g5
      by_cases c2 : i < j
      · have c2' : ((i : Int) < (j : Int)) = True := eq_true (by omega)
        have eh : (((i : Int) + (j : Int)) % 18446744073709551616).toNat >>> 1 = (i + j) / 2 := by rw [Nat.shiftRight_eq_div_pow]; omega
        obtain ⟨H, hH⟩ : ∃ H, (i + j) / 2 = H := ⟨_, rfl⟩
        rw [hH] at eh
        have ep : ((mid : Int) + m - 1 - (H : Int)).toNat = mid + m - 1 - H := by omega
        have f1 := fl_has (l := n) (i := H) (by omega)
        have f2 := fl_get (l := n) (i := H) (by omega)
        have f3 := fl_has (l := n) (i := mid + m - 1 - H) (by omega)
        have f4 := fl_get (l := n) (i := mid + m - 1 - H) (by omega)
        simp (maxSteps := 1000000) only [go_sem, kn1, kn2, kn3, kn4, kn5, kn6, kn7, kn8, kn9, kz1, kz2, kz3, kz4, kz5, kz6, kz7, kz8, kz9, kz0, reduceCtorEq, String.reduceEq, kn0, kq1, kq2, kq3, kq4, Int.toNat_natCast, c2', eh, ep, h1, f1, f2, f3, f4, cmpN_lt']
        refine ⟨by omega, by omega, by omega, by omega, by omega, fun _ => ⟨fun q => ⟨(i, H), ⟨g1, by show i ≤ H; omega, by show H ≤ mid; omega, g4, fun x k1 k2 => ?_⟩, ⟨rfl, rfl⟩, by show H - i < j - i; omega⟩,
          fun q => ⟨by omega, (H + 1, j), ⟨by show (mid + m - hi) ≤ H + 1; omega, by show H + 1 ≤ j; omega, g3, fun x k1 k2 => ?_, g5⟩, ⟨by show _ = ((H + 1 : Nat) : Int); omega, rfl⟩, by show j - (H + 1) < j - i; omega⟩⟩⟩
        · have k1' : H ≤ x := k1
          by_cases e : x = H
          · rw [e]; exact q
          · have a1 := S1 H x (by omega) (by omega) (by omega)
            have a2 := S2 (mid + m - 1 - x) (mid + m - 1 - H) (by omega) (by omega) (by omega)
            omega
        · have k2' : x < H + 1 := k2
          by_cases e : x = H
          · rw [e]; exact Nat.le_of_not_lt q
          · have a1 := S1 x H (by omega) (by omega) (by omega)
            have a2 := S2 (mid + m - 1 - H) (mid + m - 1 - x) (by omega) (by omega) (by omega)
            omega
      · have c2' : ((i : Int) < (j : Int)) = False := eq_false (by omega)
        have ij : j = i := by omega
        subst ij
        have cut := Cut.of (n := n) (a := lo) (m := m) (b := hi) (mid := mid) (s := j) (s0 := (mid + m - hi)) (r0 := mid) (by omega) (by omega) hm.symm S1 S2 (.inl ⟨c3, rfl, rfl⟩) ⟨g1, g3⟩ g4 g5
        simp (maxSteps := 1000000) only [go_sem, kn1, kn2, kn3, kn4, kn5, kn6, kn7, kn8, kn9, kz1, kz2, kz3, kz4, kz5, kz6, kz7, kz8, kz9, kz0, reduceCtorEq, String.reduceEq, kn0, kq1, kq2, kq3, kq4, Int.toNat_natCast, c2', c_slices_symMergeCmpFunc_span_Span.eq_1, c_slices_rotateCmpFunc_span_Span.eq_1]
        obtain ⟨r1, r2, r3, r4, r5, r6⟩ := cut.r
        have P := cut.parts (by omega) S1 S2
        have wr : ∀ x ∈ rota n j m (mid + m - j), x.wf := (rota_mix r2 r4 (by omega)).wf h1'
        have lr := (rota_perm (m := n) r2 r4 (by omega)).length_eq
        have U : ∀ (n2 : List D2) (o2 : Om), InO o2 id n2 → o2 = om.put id (fl n2) → Mix (rota n j m (mid + m - j)) n2 lo mid → Srt n2 lo mid →
            (((mid : Int) < ((mid : Int) + (m : Int) - (j : Int)) → (((mid : Int) + (m : Int) - (j : Int)) < (hi : Int) → ∃ (m_1 : List D2) (lo md hi_1 : Nat), InO o2 id m_1 ∧ (mid : Int) = lo ∧ ((mid : Int) + (m : Int) - (j : Int)) = md ∧ (hi : Int) = hi_1 ∧ (lo < md ∧ md < hi_1 ∧ hi_1 ≤ len ∧ hi_1 - lo ≤ N) ∧ (len ≤ m_1.length ∧ len ≤ 1073741824) ∧ (Srt m_1 lo md ∧ Srt m_1 md hi_1) ∧ ∀ m' : List D2, Mix m_1 m' lo hi_1 → Srt m' lo hi_1 → Q (.tup []) (om.put id (fl m'))) ∧ (¬ ((mid : Int) + (m : Int) - (j : Int)) < (hi : Int) → Q (.tup []) o2)) ∧ (¬ (mid : Int) < ((mid : Int) + (m : Int) - (j : Int)) → Q (.tup []) o2)) := by
          intro n2 o2 hO hE M2 T2
          have fin := fun n3 M3 T3 => cut.fin (n2 := n2) (n3 := n3) (by omega) S1 S2 (by omega) (by omega) M2 T2 M3 T3
          have l2 := M2.len
          refine ⟨fun a1 => ⟨fun a2 => ⟨n2, mid, (mid + m - j), hi, hO, rfl, by omega, rfl, ⟨by omega, by omega, by omega, by omega⟩, ⟨by omega, h7⟩, ⟨Srt.off M2 P.2.2.1 (.inr (Nat.le_refl _)), Srt.off M2 P.2.2.2 (.inr (by omega))⟩, fun m' q1 q2 => h m' (fin m' q1 q2).1 (fin m' q1 q2).2⟩, fun a2 => ?_⟩, fun a1 => ?_⟩
          · have T : Srt n2 mid hi := by
              have := Srt.off M2 P.2.2.1 (.inr (Nat.le_refl _))
              rwa [show (mid + m - j) = hi by omega] at this
            rw [hE]
            exact h n2 (fin n2 (.refl _ _ _) T).1 (fin n2 (.refl _ _ _) T).2
          · have T : Srt n2 mid hi := by
              have := Srt.off M2 P.2.2.2 (.inr (by omega))
              rwa [show (mid + m - j) = mid by omega] at this
            rw [hE]
            exact h n2 (fin n2 (.refl _ _ _) T).1 (fin n2 (.refl _ _ _) T).2
        have T0 : (lo < j → ¬ j < mid) → Srt (rota n j m (mid + m - j)) lo mid := fun c => by
          by_cases c4 : lo < j
          · have := P.1
            rwa [show j = mid by have := c c4; omega] at this ⊢
          · have := P.2.1
            rwa [show j = lo by omega] at this ⊢
        refine ⟨by omega, fun a1 => ⟨fun a2 => ⟨n, j, m, (mid + m - j), ⟨h1, h1'⟩, rfl, rfl, by omega, by omega, ⟨by omega, by omega⟩, ⟨h6, h7⟩,
            fun b1 => ⟨fun b2 => ⟨rota n j m (mid + m - j), lo, j, mid, InO.put (m := n) wr, rfl, rfl, rfl, ⟨by omega, by omega, by omega, by omega⟩, ⟨by omega, h7⟩, ⟨P.1, P.2.1⟩, fun m' q1 q2 => U m' _ (InO.put (m := n) (q1.wf wr)) rfl q1 q2⟩, fun b2 => U _ _ (InO.put (m := n) wr) rfl (.refl _ _ _) (T0 fun _ => by omega)⟩,
            fun b1 => U _ _ (InO.put (m := n) wr) rfl (.refl _ _ _) (T0 fun _ => by omega)⟩, fun a2 => ?_⟩, fun a1 => ?_⟩
        all_goals
          have e0 : rota n j m (mid + m - j) = n := rota_no r2 r4 (by omega) (by omega)
          have hO : InO om id (rota n j m (mid + m - j)) := by rw [e0]; exact ⟨h1, h1'⟩
          have hE : om = om.put id (fl (rota n j m (mid + m - j))) := by rw [e0, om_put_self h1]
          exact ⟨fun b1 => ⟨fun b2 => ⟨rota n j m (mid + m - j), lo, j, mid, hO, rfl, rfl, rfl, ⟨by omega, by omega, by omega, by omega⟩, ⟨by omega, h7⟩, ⟨P.1, P.2.1⟩, fun m' q1 q2 => U m' _ (InO.put (m := n) (q1.wf wr)) rfl q1 q2⟩, fun b2 => U _ _ hO hE (.refl _ _ _) (T0 fun _ => by omega)⟩,
            fun b1 => U _ _ hO hE (.refl _ _ _) (T0 fun _ => by omega)⟩
  · have c3' : ((mid : Int) < (m : Int)) = False := eq_false (by omega)
    simp (maxSteps := 1000000) only [go_sem, Try.f64, kn1, kn2, kn3, kn4, kn5, kn6, kn7, kn8, kn9, kz1, kz2, kz3, kz4, kz5, kz6, kz7, kz8, kz9, kz0, reduceCtorEq, String.reduceEq, kn0, kq1, kq2, kq3, kq4, Int.toNat_natCast, c1', c2', em, c3']
    refine ⟨by omega, by omega, by omega, by omega, by omega, by omega, Nat × Nat, fun q => ⟨[.ow id 0 len cap, .z lo, .z m, .z hi, .fn (.func 58) [] [], .u, .u, .u, .u, .u, .u, .u, .u, .u, .u, .u, .u, .u, .z mid, .z ((mid : Int) + m), .z q.1, .z q.2, .z ((mid : Int) + m - 1), .u, .u, .u, .u, .u, .u, .u, .u, .u, .u, .u, .u, .u, .u, .u, .u, .u, .u, .u, .u, .u, .u, .u, .u, .u, .u, .u, .u, .u, .u, .u, .u, .u, .u, .u, .u, .u, .u, .u, .u, .u, .u, .u, .u, .u, .u, .u, .u, .u, .u, .u, .u, .u, .u, .u, .u, .u, .u, .u, .u, .u, .u, .u, .u, .u, .u, .u, .u, .u, .u, .u, .u, .u, .u, .u, .u, .u, .u, .u, .u, .u, .u, .u, .u, .u, .u, .u, .u, .u, .u, .u, .u, .u, .u, .u, .u, .u, .u, .u, .u, .u, .u, .u, .u, .u, .u, .u, .u, .u, .u, .u, .u, .u, .u, .u, .u, .u, .u, .u, .u, .u, .u, .u, .u, .u, .u, .u, .u, .u, .u, .u, .u, .u, .u, .u, .u, .u, .u, .u, .u, .u, .u, .u, .u, .u, .u, .u, .u, .u, .u, .u, .u, .u, .u, .u, .u, .u, .u, .u, .u, .u, .u, .u, .u, .u, .u, .u, .u, .u, .u, .u, .u, .u, .u, .u, .u, .u, .u, .u, .u, .u, .u, .u, .u, .u, .u, .u, .u, .u, .u, .u, .u, .u, .u, .u, .u, .u], [], om⟩,
      fun q => lo ≤ q.1 ∧ q.1 ≤ q.2 ∧ q.2 ≤ m ∧ (∀ c, lo ≤ c → c < q.1 → (n.getD c z2).a ≤ (n.getD (mid + m - 1 - c) z2).a) ∧ ∀ c, q.2 ≤ c → c < m → (n.getD (mid + m - 1 - c) z2).a < (n.getD c z2).a, fun q => q.2 - q.1, ⟨(lo, m), ⟨Nat.le_refl _, by show lo ≤ m; omega, Nat.le_refl _, fun x g1 g2 => by have : x < lo := g2; omega, fun x g1 g2 => by have : m ≤ x := g1; omega⟩, ?_⟩, ?_⟩
    · simp only [go_sem, kn1, kn2, kn3, kn4, kn5, kn6, kn7, kn8, kn9, kz1, kz2, kz3, kz4, kz5, kz6, kz7, kz8, kz9, kz0, reduceCtorEq, String.reduceEq, kn0, kq1, kq2, kq3, kq4, Int.toNat_natCast]
      try omega
    · rintro ⟨i, j⟩ ⟨g1, g2, g3, g4, g5⟩
      simp only at g1 g2 g3 g4 g5
      by_cases c2 : i < j
      · have c2' : ((i : Int) < (j : Int)) = True := eq_true (by omega)
        have eh : (((i : Int) + (j : Int)) % 18446744073709551616).toNat >>> 1 = (i + j) / 2 := by rw [Nat.shiftRight_eq_div_pow]; omega
        obtain ⟨H, hH⟩ : ∃ H, (i + j) / 2 = H := ⟨_, rfl⟩
        rw [hH] at eh
        have ep : ((mid : Int) + m - 1 - (H : Int)).toNat = mid + m - 1 - H := by omega
        have f1 := fl_has (l := n) (i := H) (by omega)
        have f2 := fl_get (l := n) (i := H) (by omega)
        have f3 := fl_has (l := n) (i := mid + m - 1 - H) (by omega)
        have f4 := fl_get (l := n) (i := mid + m - 1 - H) (by omega)
        simp (maxSteps := 1000000) only [go_sem, kn1, kn2, kn3, kn4, kn5, kn6, kn7, kn8, kn9, kz1, kz2, kz3, kz4, kz5, kz6, kz7, kz8, kz9, kz0, reduceCtorEq, String.reduceEq, kn0, kq1, kq2, kq3, kq4, Int.toNat_natCast, c2', eh, ep, h1, f1, f2, f3, f4, cmpN_lt']
        refine ⟨by omega, by omega, by omega, by omega, by omega, fun _ => ⟨fun q => ⟨(i, H), ⟨g1, by show i ≤ H; omega, by show H ≤ m; omega, g4, fun x k1 k2 => ?_⟩, ⟨rfl, rfl⟩, by show H - i < j - i; omega⟩,
          fun q => ⟨by omega, (H + 1, j), ⟨by show lo ≤ H + 1; omega, by show H + 1 ≤ j; omega, g3, fun x k1 k2 => ?_, g5⟩, ⟨by show _ = ((H + 1 : Nat) : Int); omega, rfl⟩, by show j - (H + 1) < j - i; omega⟩⟩⟩
        · have k1' : H ≤ x := k1
          by_cases e : x = H
          · rw [e]; exact q
          · have a1 := S1 H x (by omega) (by omega) (by omega)
            have a2 := S2 (mid + m - 1 - x) (mid + m - 1 - H) (by omega) (by omega) (by omega)
            omega
        · have k2' : x < H + 1 := k2
          by_cases e : x = H
          · rw [e]; exact Nat.le_of_not_lt q
          · have a1 := S1 x H (by omega) (by omega) (by omega)
            have a2 := S2 (mid + m - 1 - H) (mid + m - 1 - x) (by omega) (by omega) (by omega)
            omega
      · have c2' : ((i : Int) < (j : Int)) = False := eq_false (by omega)
        have ij : j = i := by omega
        subst ij
        have cut := Cut.of (n := n) (a := lo) (m := m) (b := hi) (mid := mid) (s := j) (s0 := lo) (r0 := m) (by omega) (by omega) hm.symm S1 S2 (.inr ⟨by omega, rfl, rfl⟩) ⟨g1, g3⟩ g4 g5
        simp (maxSteps := 1000000) only [go_sem, kn1, kn2, kn3, kn4, kn5, kn6, kn7, kn8, kn9, kz1, kz2, kz3, kz4, kz5, kz6, kz7, kz8, kz9, kz0, reduceCtorEq, String.reduceEq, kn0, kq1, kq2, kq3, kq4, Int.toNat_natCast, c2', c_slices_symMergeCmpFunc_span_Span.eq_1, c_slices_rotateCmpFunc_span_Span.eq_1]
        obtain ⟨r1, r2, r3, r4, r5, r6⟩ := cut.r
        have P := cut.parts (by omega) S1 S2
        have wr : ∀ x ∈ rota n j m (mid + m - j), x.wf := (rota_mix r2 r4 (by omega)).wf h1'
        have lr := (rota_perm (m := n) r2 r4 (by omega)).length_eq
        have U : ∀ (n2 : List D2) (o2 : Om), InO o2 id n2 → o2 = om.put id (fl n2) → Mix (rota n j m (mid + m - j)) n2 lo mid → Srt n2 lo mid →
            (((mid : Int) < ((mid : Int) + (m : Int) - (j : Int)) → (((mid : Int) + (m : Int) - (j : Int)) < (hi : Int) → ∃ (m_1 : List D2) (lo md hi_1 : Nat), InO o2 id m_1 ∧ (mid : Int) = lo ∧ ((mid : Int) + (m : Int) - (j : Int)) = md ∧ (hi : Int) = hi_1 ∧ (lo < md ∧ md < hi_1 ∧ hi_1 ≤ len ∧ hi_1 - lo ≤ N) ∧ (len ≤ m_1.length ∧ len ≤ 1073741824) ∧ (Srt m_1 lo md ∧ Srt m_1 md hi_1) ∧ ∀ m' : List D2, Mix m_1 m' lo hi_1 → Srt m' lo hi_1 → Q (.tup []) (om.put id (fl m'))) ∧ (¬ ((mid : Int) + (m : Int) - (j : Int)) < (hi : Int) → Q (.tup []) o2)) ∧ (¬ (mid : Int) < ((mid : Int) + (m : Int) - (j : Int)) → Q (.tup []) o2)) := by
          intro n2 o2 hO hE M2 T2
          have fin := fun n3 M3 T3 => cut.fin (n2 := n2) (n3 := n3) (by omega) S1 S2 (by omega) (by omega) M2 T2 M3 T3
          have l2 := M2.len
          refine ⟨fun a1 => ⟨fun a2 => ⟨n2, mid, (mid + m - j), hi, hO, rfl, by omega, rfl, ⟨by omega, by omega, by omega, by omega⟩, ⟨by omega, h7⟩, ⟨Srt.off M2 P.2.2.1 (.inr (Nat.le_refl _)), Srt.off M2 P.2.2.2 (.inr (by omega))⟩, fun m' q1 q2 => h m' (fin m' q1 q2).1 (fin m' q1 q2).2⟩, fun a2 => ?_⟩, fun a1 => ?_⟩
          · have T : Srt n2 mid hi := by
              have := Srt.off M2 P.2.2.1 (.inr (Nat.le_refl _))
              rwa [show (mid + m - j) = hi by omega] at this
            rw [hE]
            exact h n2 (fin n2 (.refl _ _ _) T).1 (fin n2 (.refl _ _ _) T).2
          · have T : Srt n2 mid hi := by
              have := Srt.off M2 P.2.2.2 (.inr (by omega))
              rwa [show (mid + m - j) = mid by omega] at this
            rw [hE]
            exact h n2 (fin n2 (.refl _ _ _) T).1 (fin n2 (.refl _ _ _) T).2
        have T0 : (lo < j → ¬ j < mid) → Srt (rota n j m (mid + m - j)) lo mid := fun c => by
          by_cases c4 : lo < j
          · have := P.1
            rwa [show j = mid by have := c c4; omega] at this ⊢
          · have := P.2.1
            rwa [show j = lo by omega] at this ⊢
        refine ⟨by omega, fun a1 => ⟨fun a2 => ⟨n, j, m, (mid + m - j), ⟨h1, h1'⟩, rfl, rfl, by omega, by omega, ⟨by omega, by omega⟩, ⟨h6, h7⟩,
            fun b1 => ⟨fun b2 => ⟨rota n j m (mid + m - j), lo, j, mid, InO.put (m := n) wr, rfl, rfl, rfl, ⟨by omega, by omega, by omega, by omega⟩, ⟨by omega, h7⟩, ⟨P.1, P.2.1⟩, fun m' q1 q2 => U m' _ (InO.put (m := n) (q1.wf wr)) rfl q1 q2⟩, fun b2 => U _ _ (InO.put (m := n) wr) rfl (.refl _ _ _) (T0 fun _ => by omega)⟩,
            fun b1 => U _ _ (InO.put (m := n) wr) rfl (.refl _ _ _) (T0 fun _ => by omega)⟩, fun a2 => ?_⟩, fun a1 => ?_⟩
        all_goals
          have e0 : rota n j m (mid + m - j) = n := rota_no r2 r4 (by omega) (by omega)
          have hO : InO om id (rota n j m (mid + m - j)) := by rw [e0]; exact ⟨h1, h1'⟩
          have hE : om = om.put id (fl (rota n j m (mid + m - j))) := by rw [e0, om_put_self h1]
          exact ⟨fun b1 => ⟨fun b2 => ⟨rota n j m (mid + m - j), lo, j, mid, hO, rfl, rfl, rfl, ⟨by omega, by omega, by omega, by omega⟩, ⟨by omega, h7⟩, ⟨P.1, P.2.1⟩, fun m' q1 q2 => U m' _ (InO.put (m := n) (q1.wf wr)) rfl q1 q2⟩, fun b2 => U _ _ hO hE (.refl _ _ _) (T0 fun _ => by omega)⟩,
            fun b1 => U _ _ hO hE (.refl _ _ _) (T0 fun _ => by omega)⟩
end Go.Proofs.Ytlcnohmnemmbdaa.I
