/- Insertion sort of spans by where they begin. -/
import Derived.Test.YtlcnohmnemmbdaaSpan3
namespace Go.Proofs.Ytlcnohmnemmbdaa.I
open Go
open Nat renaming reduceEqDiff → kn1, reduceBEq → kn2, reducePow → kn3, reduceMod → kn4, reduceAdd → kn5, reduceSub → kn6, reduceMul → kn7, reduceDiv → kn8, reduceLeDiff → kn9, reduceLT → kn0, zero_lt_one → kq1, zero_add → kq2, zero_le → kq3, le_refl → kq4
open Int renaming reduceToNat → kz1, reduceAdd → kz2, reduceSub → kz3, reduceMul → kz4, reduceDiv → kz5, reduceMod → kz6, reduceLE → kz7, reduceLT → kz8, reduceNeg → kz9, reduceEq → kz0
set_option maxRecDepth 10000
set_option linter.unusedSimpArgs false
set_option linter.unusedVariables false

/-- In order, from one place up to another one. -/
def Srt (m : List D2) (lo hi : Nat) : Prop := ∀ p q, lo ≤ p → p < q → q < hi → (m.getD p z2).a ≤ (m.getD q z2).a
/-- The same but for the order from one place up to another one. -/
def Mix (m m' : List D2) (lo hi : Nat) : Prop := m'.Perm m ∧ ∀ p, p < lo ∨ hi ≤ p → m'.getD p z2 = m.getD p z2
theorem Mix.refl (m : List D2) (lo hi : Nat) : Mix m m lo hi := ⟨.refl _, fun _ _ => rfl⟩
theorem Mix.trans {m m' m'' : List D2} {lo hi : Nat} (h : Mix m m' lo hi) (g : Mix m' m'' lo hi) : Mix m m'' lo hi := ⟨g.1.trans h.1, fun p hp => (g.2 p hp).trans (h.2 p hp)⟩
theorem Mix.wide {m m' : List D2} {lo hi lo' hi' : Nat} (h : Mix m m' lo hi) (h1 : lo' ≤ lo) (h2 : hi ≤ hi') : Mix m m' lo' hi' := ⟨h.1, fun p hp => h.2 p (by omega)⟩
theorem Mix.len {m m' : List D2} {lo hi : Nat} (h : Mix m m' lo hi) : m'.length = m.length := h.1.length_eq
theorem Mix.wf {m m' : List D2} {lo hi : Nat} (h : Mix m m' lo hi) (g : ∀ x ∈ m, x.wf) : ∀ x ∈ m', x.wf := fun x hx => g x (h.1.mem_iff.1 hx)
def swp (m : List D2) (i j : Nat) : List D2 := (m.set i (m.getD j z2)).set j (m.getD i z2)
theorem swp_getD (m : List D2) {i j : Nat} (hi : i < m.length) (hj : j < m.length) (p : Nat) : (swp m i j).getD p z2 = if p = j then m.getD i z2 else if p = i then m.getD j z2 else m.getD p z2 := by
  unfold swp
  simp only [List.getD_eq_getElem?_getD, List.getElem?_set, List.length_set]
  by_cases h1 : j = p
  · subst h1; simp [hj]
  · by_cases h2 : i = p
    · subst h2; simp [h1, hi, Ne.symm h1]
    · simp [h1, h2, Ne.symm h1, Ne.symm h2]
theorem swp_mix (m : List D2) {i j lo hi : Nat} (h1 : lo ≤ i ∧ i < hi) (h2 : lo ≤ j ∧ j < hi) (h : hi ≤ m.length) : Mix m (swp m i j) lo hi := by
  refine ⟨?_, fun p hp => ?_⟩
  · unfold swp
    have := @List.set_set_perm _ m i j (by omega) (by omega)
    simpa [List.getD_eq_getElem?_getD, show i < m.length by omega, show j < m.length by omega] using this
  · rw [swp_getD m (by omega) (by omega), if_neg (by omega), if_neg (by omega)]

noncomputable def c_slices_insertionSortCmpFunc_span_Span : Cn
  | [.ow id off len cap, .z a, .z b, .fn (.func f) [] []], om, K => ∃ (m : List D2) (lo hi : Nat), InO om id m ∧ off = 0 ∧ f = 58 ∧ a = lo ∧ b = hi ∧ lo ≤ hi ∧ hi ≤ len ∧ (len ≤ m.length ∧ len ≤ 1073741824) ∧ ∀ m', Mix m m' lo hi → Srt m' lo hi → K.k (.tup []) (om.put id (fl m'))
  | [.sl [], .z a, .z b, .fn (.func f) [] []], om, K => (a = 0 ∧ b = 0 ∧ f = 58) ∧ K.k (.tup []) om
  | _, _, _ => False
theorem c_slices_insertionSortCmpFunc_span_Span_mono : Mono c_slices_insertionSortCmpFunc_span_Span := by
  intro args om K K' hK h
  unfold c_slices_insertionSortCmpFunc_span_Span at h ⊢
  split at h
  · obtain ⟨m, lo, hi, h1, h2, h3, h4, h5, h6, h7, h8, h9⟩ := h
    exact ⟨m, lo, hi, h1, h2, h3, h4, h5, h6, h7, h8, fun m' g g' => hK _ _ (h9 m' g g')⟩
  · exact ⟨h.1, hK _ _ h.2⟩
  · exact h.elim
noncomputable def cx_slices_insertionSortCmpFunc_span_Span : Cx := { T := T, E := E, cs := [(58, c_span_sorted_2)], sch := [(4, false, .take 0 (.take 1 (.take 2 (.take 3 (.take 4 (.take 5 (.take 6 (.take 7 (.take 8 (.take 9 (.take 10 (.take 11 (.take 12 (.take 13 (.alt 14 (.take 15 (.take 16 (.done))) .no))))))))))))))), (6, false, .take 0 (.take 1 (.take 2 (.take 3 (.take 4 (.take 5 (.take 6 (.take 7 (.take 8 (.take 9 (.take 10 (.take 11 (.alt 12 (.take 13 (.take 14 (.alt 15 (.take 16 (.alt 17 (.done) .no)) .no))) .no)))))))))))))], ob := [], qs := [58], md := 2 }
@[go_sem] theorem cx_slices_insertionSortCmpFunc_span_Span_e : cx_slices_insertionSortCmpFunc_span_Span.gs = none ∧ cx_slices_insertionSortCmpFunc_span_Span.md = 2 ∧ cx_slices_insertionSortCmpFunc_span_Span.T = T ∧ cx_slices_insertionSortCmpFunc_span_Span.E = E ∧ cx_slices_insertionSortCmpFunc_span_Span.cs = [(58, c_span_sorted_2)] ∧ cx_slices_insertionSortCmpFunc_span_Span.sch = [(4, false, .take 0 (.take 1 (.take 2 (.take 3 (.take 4 (.take 5 (.take 6 (.take 7 (.take 8 (.take 9 (.take 10 (.take 11 (.take 12 (.take 13 (.alt 14 (.take 15 (.take 16 (.done))) .no))))))))))))))), (6, false, .take 0 (.take 1 (.take 2 (.take 3 (.take 4 (.take 5 (.take 6 (.take 7 (.take 8 (.take 9 (.take 10 (.take 11 (.alt 12 (.take 13 (.take 14 (.alt 15 (.take 16 (.alt 17 (.done) .no)) .no))) .no)))))))))))))] ∧ ∀ d, (cx_slices_insertionSortCmpFunc_span_Span.ob).contains d = false := ⟨rfl, rfl, rfl, rfl, rfl, rfl, fun _ => rfl⟩
theorem cok_slices_insertionSortCmpFunc_span_Span : COk Try.prog (cx_slices_insertionSortCmpFunc_span_Span) := cok_of rfl (.cons ok_span_sorted_2 (.nil)) (.cons (fun _ => fn2_quiet) (.nil)) (.nil)
theorem ok_slices_insertionSortCmpFunc_span_Span : Ok Try.prog 63 c_slices_insertionSortCmpFunc_span_Span := by
  refine ok_of_body1 cok_slices_insertionSortCmpFunc_span_Span mixed Try.func63 rfl (by kernel_rfl) (by kernel_rfl) c_slices_insertionSortCmpFunc_span_Span_mono fun args om Q hw h => ?_
  unfold c_slices_insertionSortCmpFunc_span_Span at h
  split at h <;> first | exact h.elim | skip
  · rename_i om _ _ _ id off len cap a b f
    obtain ⟨m, lo, hi, ⟨h1, h1'⟩, rfl, rfl, rfl, rfl, h2, h3, ⟨h4, h5⟩, h⟩ := h
    have hb : len ≤ cap ∧ cap ≤ longest := hw.1
    rw [longest_eq] at hb
    simp only [go_sem, Try.f63, kn1, kn2, kn3, kn4, kn5, kn6, kn7, kn8, kn9, kz1, kz2, kz3, kz4, kz5, kz6, kz7, kz8, kz9, kz0, reduceCtorEq, String.reduceEq, kn0, kq1, kq2, kq3, kq4, Int.toNat_natCast]
    refine ⟨by omega, ?_⟩
    refine ⟨Nat × List D2, fun q => ⟨[.ow id 0 len cap, .z lo, .z hi, .fn (.func 58) [] [], .u, .u, .u, .u, .z q.1, .u, .u, .u, .u, .u, .u, .u, .u, .u, .u, .u, .u, .u, .u, .u, .u, .u, .u, .u, .u, .u, .u, .u, .u, .u, .u, .u, .u, .u, .u, .u, .u, .u, .u, .u, .u, .u, .u, .u, .u, .u, .u, .u, .u], [], om.put id (fl q.2)⟩,
      fun q => lo < q.1 ∧ q.1 ≤ hi + 1 ∧ (hi < q.1 → lo = hi) ∧ Mix m q.2 lo hi ∧ Srt q.2 lo q.1, fun q => hi + 1 - q.1, ⟨(lo + 1, m), ⟨by show lo < lo + 1; omega, by show lo + 1 ≤ hi + 1; omega, fun g => by have : hi < lo + 1 := g; omega, .refl _ _ _, fun p q h1 h2 h3 => by have : q < lo + 1 := h3; omega⟩, ?_⟩, ?_⟩
    · simp only [go_sem, kn1, kn2, kn3, kn4, kn5, kn6, kn7, kn8, kn9, kz1, kz2, kz3, kz4, kz5, kz6, kz7, kz8, kz9, kz0, reduceCtorEq, String.reduceEq, kn0, kq1, kq2, kq3, kq4, Int.toNat_natCast]
      rw [om_put_self h1]
      exact ⟨by omega, .refl _⟩
    · rintro ⟨i, n⟩ ⟨g1, g2, g0, g3, g4⟩
      simp only at g0 g1 g2 g3 g4
      simp only [go_sem, kn1, kn2, kn3, kn4, kn5, kn6, kn7, kn8, kn9, kz1, kz2, kz3, kz4, kz5, kz6, kz7, kz8, kz9, kz0, reduceCtorEq, String.reduceEq, kn0, kq1, kq2, kq3, kq4, Int.toNat_natCast]
      refine ⟨fun c => ?_, fun c => h n g3 fun p q h1 h2 h3 => g4 p q h1 h2 (by omega)⟩
      refine ⟨Nat × List D2, fun q => ⟨[.ow id 0 len cap, .z lo, .z hi, .fn (.func 58) [] [], .u, .u, .u, .u, .z i, .z q.1, .u, .u, .u, .u, .u, .u, .u, .u, .u, .u, .u, .u, .u, .u, .u, .u, .u, .u, .u, .u, .u, .u, .u, .u, .u, .u, .u, .u, .u, .u, .u, .u, .u, .u, .u, .u, .u, .u, .u, .u, .u, .u, .u], [], om.put id (fl q.2)⟩,
        fun q => lo ≤ q.1 ∧ q.1 ≤ i ∧ Mix m q.2 lo hi ∧ ∀ p r, lo ≤ p → p < r → r ≤ i → r ≠ q.1 → (q.2.getD p z2).a ≤ (q.2.getD r z2).a, fun q => q.1, ⟨(i, n), ⟨by show lo ≤ i; omega, Nat.le_refl _, g3, fun p r h1 h2 h3 h4 => g4 p r h1 h2 (by have : r ≠ i := h4; omega)⟩, ?_⟩, ?_⟩
      · simp only [go_sem, kn1, kn2, kn3, kn4, kn5, kn6, kn7, kn8, kn9, kz1, kz2, kz3, kz4, kz5, kz6, kz7, kz8, kz9, kz0, reduceCtorEq, String.reduceEq, kn0, kq1, kq2, kq3, kq4, Int.toNat_natCast]
      · rintro ⟨j, k⟩ ⟨k1, k2, k3, k4⟩
        simp only at k1 k2 k3 k4
        have kl := k3.len
        by_cases c2 : lo < j
        · have c2' : ((lo : Int) < (j : Int)) = True := eq_true (by omega)
          have ej : ((j : Int) - 1).toNat = j - 1 := by omega
          have f1 := fl_has (l := k) (i := j) (by omega)
          have f2 := fl_get (l := k) (i := j) (by omega)
          have f3 := fl_has (l := k) (i := j - 1) (by omega)
          have f4 := fl_get (l := k) (i := j - 1) (by omega)
          have f5 := fl_set (l := k) (i := j) (by omega) (k.getD (j - 1) z2)
          have f6 := fl_has (l := k.set j (k.getD (j - 1) z2)) (i := j - 1) (by simp; omega)
          have f7 := fl_set (l := k.set j (k.getD (j - 1) z2)) (i := j - 1) (by simp; omega) (k.getD j z2)
          simp only [go_sem, kn1, kn2, kn3, kn4, kn5, kn6, kn7, kn8, kn9, kz1, kz2, kz3, kz4, kz5, kz6, kz7, kz8, kz9, kz0, reduceCtorEq, String.reduceEq, kn0, kq1, kq2, kq3, kq4, Int.toNat_natCast, c2', ej, f1, f2, f3, f4, f5, f6, f7, cmpN_lt']
          refine ⟨by omega, by omega, by omega, fun _ => ⟨fun c3 => ⟨by omega, by omega, by omega, by omega, by omega, by omega, by omega, (j - 1, swp k j (j - 1)), ⟨by show lo ≤ j - 1; omega, by show j - 1 ≤ i; omega, k3.trans (swp_mix k (by omega) (by omega) (by omega)), ?_⟩, ⟨by show _ = ((j - 1 : Nat) : Int); omega, .refl _⟩, by show j - 1 < j; omega⟩,
            fun c3 => ⟨by omega, (i + 1, k), ⟨by show lo < i + 1; omega, by show i + 1 ≤ hi + 1; omega, fun g => by have : hi < i + 1 := g; omega, k3, fun p r h1 h2 h3 => ?_⟩, ⟨by show _ = ((i + 1 : Nat) : Int); omega, .refl _⟩, by show hi + 1 - (i + 1) < _; omega⟩⟩⟩
          · intro p r h1 h2 h3 h4
            have h4' : ¬ r = j - 1 := h4
            show ((swp k j (j - 1)).getD p z2).a ≤ ((swp k j (j - 1)).getD r z2).a
            rw [swp_getD k (by omega) (by omega), swp_getD k (by omega) (by omega), if_neg h4']
            by_cases e1 : r = j
            · rw [if_pos e1]
              by_cases e2 : p = j - 1
              · rw [if_pos e2]; omega
              · rw [if_neg e2, if_neg (by omega)]; exact k4 p (j - 1) h1 (by omega) (by omega) (by omega)
            · rw [if_neg e1]
              by_cases e2 : p = j - 1
              · rw [if_pos e2]; exact k4 j r (by omega) (by omega) h3 e1
              · rw [if_neg e2]
                by_cases e3 : p = j
                · rw [if_pos e3]; exact k4 (j - 1) r (by omega) (by omega) h3 e1
                · rw [if_neg e3]; exact k4 p r h1 h2 h3 e1
          · have h3' : r < i + 1 := h3
            by_cases e1 : r = j
            · subst e1
              by_cases e2 : p = r - 1
              · rw [e2]; show (k.getD (r - 1) z2).a ≤ (k.getD r z2).a; omega
              · have := k4 p (r - 1) h1 (by omega) (by omega) (by omega)
                show (k.getD p z2).a ≤ (k.getD r z2).a; omega
            · exact k4 p r h1 h2 (by omega) e1
        · have c2' : ((lo : Int) < (j : Int)) = False := eq_false (by omega)
          simp only [go_sem, kn1, kn2, kn3, kn4, kn5, kn6, kn7, kn8, kn9, kz1, kz2, kz3, kz4, kz5, kz6, kz7, kz8, kz9, kz0, reduceCtorEq, String.reduceEq, kn0, kq1, kq2, kq3, kq4, Int.toNat_natCast, c2']
          refine ⟨by omega, (i + 1, k), ⟨by show lo < i + 1; omega, by show i + 1 ≤ hi + 1; omega, fun g => by have : hi < i + 1 := g; omega, k3, fun p q h1 h2 h3 => ?_⟩, ⟨by show _ = ((i + 1 : Nat) : Int); omega, .refl _⟩, by show hi + 1 - (i + 1) < _; omega⟩
          exact k4 p q h1 h2 (by have : q < i + 1 := h3; omega) (by omega)
  · obtain ⟨⟨rfl, rfl, rfl⟩, h⟩ := h
    rename_i om _ _ _
    simp only [go_sem, Try.f63, kn1, kn2, kn3, kn4, kn5, kn6, kn7, kn8, kn9, kz1, kz2, kz3, kz4, kz5, kz6, kz7, kz8, kz9, kz0, reduceCtorEq, String.reduceEq, kn0, kq1, kq2, kq3, kq4, Int.toNat_natCast]
    refine ⟨Unit, fun _ => ⟨[.sl [], .z 0, .z 0, .fn (.func 58) [] [], .u, .u, .u, .u, .z 1, .u, .u, .u, .u, .u, .u, .u, .u, .u, .u, .u, .u, .u, .u, .u, .u, .u, .u, .u, .u, .u, .u, .u, .u, .u, .u, .u, .u, .u, .u, .u, .u, .u, .u, .u, .u, .u, .u, .u, .u, .u, .u, .u, .u], [], om⟩, fun _ => True, fun _ => 0, ⟨(), trivial, ?_⟩, ?_⟩
    · simp only [go_sem, kn1, kn2, kn3, kn4, kn5, kn6, kn7, kn8, kn9, kz1, kz2, kz3, kz4, kz5, kz6, kz7, kz8, kz9, kz0, reduceCtorEq, String.reduceEq, kn0, kq1, kq2, kq3, kq4, Int.toNat_natCast]
    · intro _ _
      simp only [go_sem, kn1, kn2, kn3, kn4, kn5, kn6, kn7, kn8, kn9, kz1, kz2, kz3, kz4, kz5, kz6, kz7, kz8, kz9, kz0, reduceCtorEq, String.reduceEq, kn0, kq1, kq2, kq3, kq4, Int.toNat_natCast]
      exact h
end Go.Proofs.Ytlcnohmnemmbdaa.I
