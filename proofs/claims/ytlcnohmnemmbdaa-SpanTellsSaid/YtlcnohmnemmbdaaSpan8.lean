/- The stable sort of up to 30 spans; sorted. -/
import Derived.Test.YtlcnohmnemmbdaaSpan7
namespace Go.Proofs.Ytlcnohmnemmbdaa.I
open Go
open Nat renaming reduceEqDiff → kn1, reduceBEq → kn2, reducePow → kn3, reduceMod → kn4, reduceAdd → kn5, reduceSub → kn6, reduceMul → kn7, reduceDiv → kn8, reduceLeDiff → kn9, reduceLT → kn0, zero_lt_one → kq1, zero_add → kq2, zero_le → kq3, le_refl → kq4
open Int renaming reduceToNat → kz1, reduceAdd → kz2, reduceSub → kz3, reduceMul → kz4, reduceDiv → kz5, reduceMod → kz6, reduceLE → kz7, reduceLT → kz8, reduceNeg → kz9, reduceEq → kz0
set_option maxRecDepth 10000
set_option linter.unusedSimpArgs false
set_option linter.unusedVariables false

theorem ok_symN : ∀ N, Ok Try.prog 64 (c_slices_symMergeCmpFunc_span_Span N)
  | 0 => ok_sym0
  | N + 1 => ok_symS N (ok_symN N)
noncomputable def c_sym100 : Cn := c_slices_symMergeCmpFunc_span_Span 100
theorem ok_sym100 : Ok Try.prog 64 c_sym100 := ok_symN 100

noncomputable def c_slices_stableCmpFunc_span_Span : Cn
  | [.ow id off len cap, .z a, .fn (.func f) [] []], om, K => ∃ (m : List D2) (n : Nat), InO om id m ∧ off = 0 ∧ f = 58 ∧ a = n ∧ len = n ∧ (n ≤ m.length ∧ n ≤ 30) ∧ ∀ m', Mix m m' 0 n → Srt m' 0 n → K.k (.tup []) (om.put id (fl m'))
  | [.sl [], .z a, .fn (.func f) [] []], om, K => (a = 0 ∧ f = 58) ∧ K.k (.tup []) om
  | _, _, _ => False
theorem c_slices_stableCmpFunc_span_Span_mono : Mono c_slices_stableCmpFunc_span_Span := by
  intro args om K K' hK h
  unfold c_slices_stableCmpFunc_span_Span at h ⊢
  split at h
  · obtain ⟨m, n, h1, h2, h3, h4, h5, h6, h7⟩ := h
    exact ⟨m, n, h1, h2, h3, h4, h5, h6, fun m' g g' => hK _ _ (h7 m' g g')⟩
  · exact ⟨h.1, hK _ _ h.2⟩
  · exact h.elim
noncomputable def cx_slices_stableCmpFunc_span_Span : Cx := { T := T, E := E, cs := [(63, c_slices_insertionSortCmpFunc_span_Span), (64, c_sym100)], sch := [], ob := [], qs := [], md := 2 }
@[go_sem] theorem cx_slices_stableCmpFunc_span_Span_e : cx_slices_stableCmpFunc_span_Span.gs = none ∧ cx_slices_stableCmpFunc_span_Span.md = 2 ∧ cx_slices_stableCmpFunc_span_Span.T = T ∧ cx_slices_stableCmpFunc_span_Span.E = E ∧ cx_slices_stableCmpFunc_span_Span.cs = [(63, c_slices_insertionSortCmpFunc_span_Span), (64, c_sym100)] ∧ ∀ d, (cx_slices_stableCmpFunc_span_Span.ob).contains d = false := ⟨rfl, rfl, rfl, rfl, rfl, fun _ => rfl⟩
theorem cok_slices_stableCmpFunc_span_Span : COk Try.prog (cx_slices_stableCmpFunc_span_Span) := cok_of rfl (.cons ok_slices_insertionSortCmpFunc_span_Span (.cons ok_sym100 (.nil))) (.cons (fun h => absurd h (by decide)) (.cons (fun h => absurd h (by decide)) (.nil))) (.nil)
set_option maxHeartbeats 2000000 in
theorem ok_slices_stableCmpFunc_span_Span : Ok Try.prog 62 c_slices_stableCmpFunc_span_Span := by
  refine ok_of_body1 cok_slices_stableCmpFunc_span_Span mixed Try.func62 rfl (by kernel_rfl) (by kernel_rfl) c_slices_stableCmpFunc_span_Span_mono fun args om Q hw h => ?_
  unfold c_slices_stableCmpFunc_span_Span at h
  split at h <;> first | exact h.elim | skip
  · rename_i om _ _ _ id off len cap a f
    obtain ⟨m, n, ⟨h1, h1'⟩, rfl, rfl, rfl, rfl, ⟨h2, h3⟩, h⟩ := h
    simp (maxSteps := 1000000) only [go_sem, Try.f62, kn1, kn2, kn3, kn4, kn5, kn6, kn7, kn8, kn9, kz1, kz2, kz3, kz4, kz5, kz6, kz7, kz8, kz9, kz0, reduceCtorEq, String.reduceEq, kn0, kq1, kq2, kq3, kq4, Int.toNat_natCast]
    refine ⟨Nat × List D2, fun q => ⟨[.ow id 0 len cap, .z len, .fn (.func 58) [] [], .u, .u, .u, .z 20, .z (20 * q.1 : Nat), .z (20 * q.1 + 20 : Nat), .u, .u, .u, .u, .u, .u, .u, .u, .u, .u, .u, .u, .u, .u, .u, .u, .u, .u, .u, .u, .u, .u, .u, .u, .u, .u, .u, .u, .u, .u, .u, .u, .u, .u, .u, .u, .u, .u, .u, .u, .u, .u, .u, .u, .u, .u, .u, .u, .u, .u, .u, .u, .u, .u], [], om.put id (fl q.2)⟩,
      fun q => (q.1 = 0 ∧ q.2 = m) ∨ (q.1 = 1 ∧ 20 ≤ len ∧ Mix m q.2 0 len ∧ Srt q.2 0 20), fun q => 1 - q.1, ⟨(0, m), .inl ⟨rfl, rfl⟩, ?_⟩, ?_⟩
    · simp only [go_sem, kn1, kn2, kn3, kn4, kn5, kn6, kn7, kn8, kn9, kz1, kz2, kz3, kz4, kz5, kz6, kz7, kz8, kz9, kz0, reduceCtorEq, String.reduceEq, kn0, kq1, kq2, kq3, kq4, Int.toNat_natCast]
      rw [om_put_self h1]; exact .refl _
    · rintro ⟨b, x⟩ hx
      simp only at hx
      have hX : Mix m x 0 len := by
        rcases hx with ⟨rfl, rfl⟩ | ⟨rfl, _, h, _⟩
        · exact .refl _ _ _
        · exact h
      have hl := hX.len
      simp (maxSteps := 1000000) only [go_sem, kn1, kn2, kn3, kn4, kn5, kn6, kn7, kn8, kn9, kz1, kz2, kz3, kz4, kz5, kz6, kz7, kz8, kz9, kz0, reduceCtorEq, String.reduceEq, kn0, kq1, kq2, kq3, kq4, Int.toNat_natCast, c_slices_insertionSortCmpFunc_span_Span.eq_1, c_sym100, c_slices_symMergeCmpFunc_span_Span.eq_1]
      refine ⟨fun c => ⟨x, 20 * b, 20 * b + 20, InO.put (m := m) (hX.wf h1'), rfl, rfl, by omega, by omega, ⟨by omega, by omega⟩, fun m' q1 q2 => ⟨by omega, (1, m'), .inr ⟨rfl, by omega, hX.trans (q1.wide (by omega) (by omega)), ?_⟩, ⟨⟨?_, ?_⟩, .refl _⟩, by show 1 - 1 < 1 - b; omega⟩⟩,
        fun c => ⟨x, 20 * b, len, InO.put (m := m) (hX.wf h1'), rfl, rfl, by omega, Nat.le_refl _, ⟨by omega, by omega⟩, fun m' q1 q2 => ?_⟩⟩
      · have : b = 0 := by omega
        subst this; exact q2
      · show _ = ((20 * 1 : Nat) : Int); omega
      · show _ = ((20 * 1 + 20 : Nat) : Int); omega
      have M : Mix m m' 0 len := hX.trans (q1.wide (by omega) (Nat.le_refl _))
      have T1 : len < 20 → Srt m' 0 len := fun g => by
        have : b = 0 := by omega
        subst this; exact q2
      have T2 : 20 ≤ len → Srt m' 0 20 ∧ Srt m' 20 len := fun g => by
        rcases hx with ⟨rfl, rfl⟩ | ⟨rfl, _, _, h4⟩
        · omega
        · exact ⟨Srt.off q1 h4 (.inl (Nat.le_refl _)), q2⟩
      have ml := M.len
      refine ⟨Nat × List D2, fun q => ⟨[.ow id 0 len cap, .z len, .fn (.func 58) [] [], .u, .u, .u, .z (20 * (q.1 + 1) : Nat), .u, .u, .u, .u, .u, .u, .u, .u, .u, .u, .u, .u, .u, .u, .u, .u, .u, .u, .u, .u, .u, .u, .u, .u, .u, .u, .u, .u, .u, .u, .u, .u, .u, .u, .u, .u, .u, .u, .u, .u, .u, .u, .u, .u, .u, .u, .u, .u, .u, .u, .u, .u, .u, .u, .u, .u], [], om.put id (fl q.2)⟩,
        fun q => q.1 ≤ 1 ∧ Mix m q.2 0 len ∧ (q.1 = 0 → (len ≤ 20 → Srt q.2 0 len) ∧ (20 < len → Srt q.2 0 20 ∧ Srt q.2 20 len)) ∧ (q.1 = 1 → Srt q.2 0 len), fun q => 1 - q.1, ⟨(0, m'), ⟨by show 0 ≤ 1; omega, M, fun _ => ⟨fun g => ?_, fun g => T2 (by omega)⟩, fun g => by cases g⟩, ?_⟩, ?_⟩
      · by_cases g2 : len = 20
        · subst g2; exact (T2 (by omega)).1
        · exact T1 (by omega)
      · simp only [go_sem, kn1, kn2, kn3, kn4, kn5, kn6, kn7, kn8, kn9, kz1, kz2, kz3, kz4, kz5, kz6, kz7, kz8, kz9, kz0, reduceCtorEq, String.reduceEq, kn0, kq1, kq2, kq3, kq4, Int.toNat_natCast]
      · rintro ⟨d, y⟩ ⟨k1, k2, k3, k4⟩
        simp only at k1 k2 k3 k4
        have yl := k2.len
        by_cases c3 : 20 * (d + 1) < len
        · have d0 : d = 0 := by omega
          subst d0
          have c3' : ((20 : Int) < (len : Int)) = True := eq_true (by omega)
          have kk := (k3 rfl).2 (by omega)
          simp (maxSteps := 1000000) only [go_sem, kn1, kn2, kn3, kn4, kn5, kn6, kn7, kn8, kn9, kz1, kz2, kz3, kz4, kz5, kz6, kz7, kz8, kz9, kz0, reduceCtorEq, String.reduceEq, kn0, kq1, kq2, kq3, kq4, Int.toNat_natCast, c3', c_sym100, c_slices_symMergeCmpFunc_span_Span.eq_1]
          refine ⟨Unit, fun _ => ⟨[.ow id 0 len cap, .z len, .fn (.func 58) [] [], .u, .u, .u, .z 20, .z 0, .z 40, .u, .u, .u, .u, .u, .u, .u, .u, .u, .u, .u, .u, .u, .u, .u, .u, .u, .u, .u, .u, .u, .u, .u, .u, .u, .u, .u, .u, .u, .u, .u, .u, .u, .u, .u, .u, .u, .u, .u, .u, .u, .u, .u, .u, .u, .u, .u, .u, .u, .u, .u, .u, .u, .u], [], om.put id (fl y)⟩, fun _ => True, fun _ => 0, ⟨(), trivial, ?_⟩, ?_⟩
          · simp only [go_sem, kn1, kn2, kn3, kn4, kn5, kn6, kn7, kn8, kn9, kz1, kz2, kz3, kz4, kz5, kz6, kz7, kz8, kz9, kz0, reduceCtorEq, String.reduceEq, kn0, kq1, kq2, kq3, kq4, Int.toNat_natCast]
          · intro _ _
            have c4' : ((40 : Int) ≤ (len : Int)) = False := eq_false (by omega)
            simp (maxSteps := 1000000) only [go_sem, kn1, kn2, kn3, kn4, kn5, kn6, kn7, kn8, kn9, kz1, kz2, kz3, kz4, kz5, kz6, kz7, kz8, kz9, kz0, reduceCtorEq, String.reduceEq, kn0, kq1, kq2, kq3, kq4, Int.toNat_natCast, c3', c4', c_sym100, c_slices_symMergeCmpFunc_span_Span.eq_1]
            exact ⟨y, 0, 20, len, InO.put (m := m) (k2.wf h1'), rfl, rfl, rfl, ⟨by omega, by omega, Nat.le_refl _, by omega⟩, ⟨by omega, by omega⟩, kk, fun m' q1 q2 => ⟨(1, m'), ⟨Nat.le_refl _, k2.trans q1, (fun g => absurd (show 1 = 0 from g) (by omega)), fun _ => q2⟩, ⟨rfl, .refl _⟩, by show 1 - 1 < 1; omega⟩⟩
        · have c3' : (((20 * (d + 1) : Nat) : Int) < (len : Int)) = False := eq_false (by omega)
          simp (maxSteps := 1000000) only [go_sem, kn1, kn2, kn3, kn4, kn5, kn6, kn7, kn8, kn9, kz1, kz2, kz3, kz4, kz5, kz6, kz7, kz8, kz9, kz0, reduceCtorEq, String.reduceEq, kn0, kq1, kq2, kq3, kq4, Int.toNat_natCast, c3']
          refine h y k2 ?_
          rcases (by omega : d = 0 ∨ d = 1) with rfl | rfl
          · exact (k3 rfl).1 (by omega)
          · exact k4 rfl
  · obtain ⟨⟨rfl, rfl⟩, h⟩ := h
    simp (maxSteps := 1000000) only [go_sem, Try.f62, kn1, kn2, kn3, kn4, kn5, kn6, kn7, kn8, kn9, kz1, kz2, kz3, kz4, kz5, kz6, kz7, kz8, kz9, kz0, reduceCtorEq, String.reduceEq, kn0, kq1, kq2, kq3, kq4, Int.toNat_natCast]
    rename_i om _ _ _
    refine ⟨Unit, fun _ => ⟨[.sl [], .z 0, .fn (.func 58) [] [], .u, .u, .u, .z 20, .z 0, .z 20, .u, .u, .u, .u, .u, .u, .u, .u, .u, .u, .u, .u, .u, .u, .u, .u, .u, .u, .u, .u, .u, .u, .u, .u, .u, .u, .u, .u, .u, .u, .u, .u, .u, .u, .u, .u, .u, .u, .u, .u, .u, .u, .u, .u, .u, .u, .u, .u, .u, .u, .u, .u, .u, .u], [], om⟩, fun _ => True, fun _ => 0, ⟨(), trivial, ?_⟩, ?_⟩
    · simp only [go_sem, kn1, kn2, kn3, kn4, kn5, kn6, kn7, kn8, kn9, kz1, kz2, kz3, kz4, kz5, kz6, kz7, kz8, kz9, kz0, reduceCtorEq, String.reduceEq, kn0, kq1, kq2, kq3, kq4, Int.toNat_natCast]
    · intro _ _
      simp (maxSteps := 1000000) only [go_sem, kn1, kn2, kn3, kn4, kn5, kn6, kn7, kn8, kn9, kz1, kz2, kz3, kz4, kz5, kz6, kz7, kz8, kz9, kz0, reduceCtorEq, String.reduceEq, kn0, kq1, kq2, kq3, kq4, Int.toNat_natCast, c_slices_insertionSortCmpFunc_span_Span.eq_2]
      refine ⟨Unit, fun _ => ⟨[.sl [], .z 0, .fn (.func 58) [] [], .u, .u, .u, .z 20, .u, .u, .u, .u, .u, .u, .u, .u, .u, .u, .u, .u, .u, .u, .u, .u, .u, .u, .u, .u, .u, .u, .u, .u, .u, .u, .u, .u, .u, .u, .u, .u, .u, .u, .u, .u, .u, .u, .u, .u, .u, .u, .u, .u, .u, .u, .u, .u, .u, .u, .u, .u, .u, .u, .u, .u], [], om⟩, fun _ => True, fun _ => 0, ⟨(), trivial, ?_⟩, ?_⟩
      · simp only [go_sem, kn1, kn2, kn3, kn4, kn5, kn6, kn7, kn8, kn9, kz1, kz2, kz3, kz4, kz5, kz6, kz7, kz8, kz9, kz0, reduceCtorEq, String.reduceEq, kn0, kq1, kq2, kq3, kq4, Int.toNat_natCast]
      · intro _ _
        simp (maxSteps := 1000000) only [go_sem, kn1, kn2, kn3, kn4, kn5, kn6, kn7, kn8, kn9, kz1, kz2, kz3, kz4, kz5, kz6, kz7, kz8, kz9, kz0, reduceCtorEq, String.reduceEq, kn0, kq1, kq2, kq3, kq4, Int.toNat_natCast]
        exact h
end Go.Proofs.Ytlcnohmnemmbdaa.I
