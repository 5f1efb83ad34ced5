/- Blocks of spans swapped and rotated. -/
import Derived.Test.YtlcnohmnemmbdaaSpan4
namespace Go.Proofs.Ytlcnohmnemmbdaa.I
open Go
open Nat renaming reduceEqDiff → kn1, reduceBEq → kn2, reducePow → kn3, reduceMod → kn4, reduceAdd → kn5, reduceSub → kn6, reduceMul → kn7, reduceDiv → kn8, reduceLeDiff → kn9, reduceLT → kn0, zero_lt_one → kq1, zero_add → kq2, zero_le → kq3, le_refl → kq4
open Int renaming reduceToNat → kz1, reduceAdd → kz2, reduceSub → kz3, reduceMul → kz4, reduceDiv → kz5, reduceMod → kz6, reduceLE → kz7, reduceLT → kz8, reduceNeg → kz9, reduceEq → kz0
set_option maxRecDepth 10000
set_option linter.unusedSimpArgs false
set_option linter.unusedVariables false

def swR (m : List D2) (a b : Nat) : Nat → List D2
  | 0 => m
  | k + 1 => swp (swR m a b k) (a + k) (b + k)
theorem swp_len (m : List D2) (i j : Nat) : (swp m i j).length = m.length := by simp [swp]
theorem swR_len (m : List D2) (a b : Nat) : ∀ k, (swR m a b k).length = m.length
  | 0 => rfl
  | k + 1 => by rw [swR, swp_len, swR_len m a b k]
theorem swR_getD (m : List D2) (a b : Nat) : ∀ k, a + k ≤ b → b + k ≤ m.length → ∀ p, (swR m a b k).getD p z2 = if a ≤ p ∧ p < a + k then m.getD (p - a + b) z2 else if b ≤ p ∧ p < b + k then m.getD (p - b + a) z2 else m.getD p z2
  | 0, _, _, p => by rw [if_neg (by omega), if_neg (by omega)]; rfl
  | k + 1, h1, h2, p => by
    have hl := swR_len m a b k
    rw [swR, swp_getD _ (by omega) (by omega), swR_getD m a b k (by omega) (by omega) (a + k), swR_getD m a b k (by omega) (by omega) (b + k), swR_getD m a b k (by omega) (by omega) p]
    repeat' split
    all_goals first | rfl | omega | (congr 1; omega)
theorem swR_wf {m : List D2} (h : ∀ x ∈ m, x.wf) (a b : Nat) : ∀ k, ∀ x ∈ swR m a b k, x.wf
  | 0 => h
  | k + 1 => fun x hx => by
    have ih := swR_wf h a b k
    unfold swR swp at hx
    rcases List.mem_or_eq_of_mem_set hx with hx | rfl
    · rcases List.mem_or_eq_of_mem_set hx with hx | rfl
      · exact ih x hx
      · exact wf_fl ih _
    · exact wf_fl ih _

noncomputable def c_slices_swapRangeCmpFunc_span_Span : Cn
  | [.ow id off len cap, .z a, .z b, .z n, .fn (.func f) [] []], om, K => ∃ (m : List D2) (lo hi k : Nat), InO om id m ∧ off = 0 ∧ a = lo ∧ b = hi ∧ n = k ∧ lo + k ≤ hi ∧ hi + k ≤ len ∧ (len ≤ m.length ∧ len ≤ 1073741824) ∧ K.k (.tup []) (om.put id (fl (swR m lo hi k)))
  | _, _, _ => False
theorem c_slices_swapRangeCmpFunc_span_Span_mono : Mono c_slices_swapRangeCmpFunc_span_Span := by
  intro args om K K' hK h
  unfold c_slices_swapRangeCmpFunc_span_Span at h ⊢
  split at h
  · obtain ⟨m, lo, hi, k, h1, h2, h3, h4, h5, h6, h7, h8, h9⟩ := h
    exact ⟨m, lo, hi, k, h1, h2, h3, h4, h5, h6, h7, h8, hK _ _ h9⟩
  · exact h.elim
noncomputable def cx_slices_swapRangeCmpFunc_span_Span : Cx := { T := T, E := E, cs := [], sch := [(3, false, .take 0 (.take 1 (.take 2 (.take 3 (.take 4 (.take 5 (.take 6 (.take 7 (.take 8 (.take 9 (.take 10 (.take 11 (.take 12 (.take 13 (.take 14 (.take 15 (.take 16 (.take 17 (.alt 18 (.take 19 (.take 20 (.alt 21 (.take 22 (.alt 23 (.done) .no)) .no))) .no)))))))))))))))))))], ob := [], qs := [], md := 2 }
@[go_sem] theorem cx_slices_swapRangeCmpFunc_span_Span_e : cx_slices_swapRangeCmpFunc_span_Span.gs = none ∧ cx_slices_swapRangeCmpFunc_span_Span.md = 2 ∧ cx_slices_swapRangeCmpFunc_span_Span.T = T ∧ cx_slices_swapRangeCmpFunc_span_Span.E = E ∧ cx_slices_swapRangeCmpFunc_span_Span.cs = [] ∧ cx_slices_swapRangeCmpFunc_span_Span.sch = [(3, false, .take 0 (.take 1 (.take 2 (.take 3 (.take 4 (.take 5 (.take 6 (.take 7 (.take 8 (.take 9 (.take 10 (.take 11 (.take 12 (.take 13 (.take 14 (.take 15 (.take 16 (.take 17 (.alt 18 (.take 19 (.take 20 (.alt 21 (.take 22 (.alt 23 (.done) .no)) .no))) .no)))))))))))))))))))] ∧ ∀ d, (cx_slices_swapRangeCmpFunc_span_Span.ob).contains d = false := ⟨rfl, rfl, rfl, rfl, rfl, rfl, fun _ => rfl⟩
theorem cok_slices_swapRangeCmpFunc_span_Span : COk Try.prog (cx_slices_swapRangeCmpFunc_span_Span) := cok_of rfl (.nil) (.nil) (.nil)
theorem ok_slices_swapRangeCmpFunc_span_Span : Ok Try.prog 66 c_slices_swapRangeCmpFunc_span_Span := by
  refine ok_of_body1 cok_slices_swapRangeCmpFunc_span_Span mixed Try.func66 rfl (by kernel_rfl) (by kernel_rfl) c_slices_swapRangeCmpFunc_span_Span_mono fun args om Q hw h => ?_
  unfold c_slices_swapRangeCmpFunc_span_Span at h
  split at h <;> first | exact h.elim | skip
  rename_i om _ _ _ id off len cap a b n f
  obtain ⟨m, lo, hi, k, ⟨h1, h1'⟩, rfl, rfl, rfl, rfl, h2, h3, ⟨h4, h5⟩, h⟩ := h
  simp only [go_sem, Try.f66, kn1, kn2, kn3, kn4, kn5, kn6, kn7, kn8, kn9, kz1, kz2, kz3, kz4, kz5, kz6, kz7, kz8, kz9, kz0, reduceCtorEq, String.reduceEq, kn0, kq1, kq2, kq3, kq4, Int.toNat_natCast]
  refine ⟨Nat, fun q => ⟨[.ow id 0 len cap, .z lo, .z hi, .z k, .fn (.func f) [] [], .u, .u, .u, .u, .u, .z q, .u, .u, .u, .u, .u, .u, .u, .u, .u, .u, .u, .u, .u, .u, .u, .u, .u, .u, .u, .u, .u, .u, .u, .u, .u, .u, .u], [], om.put id (fl (swR m lo hi q))⟩,
    fun q => q ≤ k, fun q => k - q, ⟨0, Nat.zero_le _, ?_⟩, ?_⟩
  · simp only [go_sem, kn1, kn2, kn3, kn4, kn5, kn6, kn7, kn8, kn9, kz1, kz2, kz3, kz4, kz5, kz6, kz7, kz8, kz9, kz0, reduceCtorEq, String.reduceEq, kn0, kq1, kq2, kq3, kq4, Int.toNat_natCast]
    show OmKept (om.put id (fl m)) om
    rw [om_put_self h1]; exact .refl _
  · intro q hq
    have hl := swR_len m lo hi q
    by_cases c : q < k
    · have c' : ((q : Int) < (k : Int)) = True := eq_true (by omega)
      have e1 : ((lo : Int) + (q : Int)).toNat = lo + q := by omega
      have e2 : ((hi : Int) + (q : Int)).toNat = hi + q := by omega
      have f1 := fl_has (l := swR m lo hi q) (i := lo + q) (by omega)
      have f2 := fl_get (l := swR m lo hi q) (i := lo + q) (by omega)
      have f3 := fl_has (l := swR m lo hi q) (i := hi + q) (by omega)
      have f4 := fl_get (l := swR m lo hi q) (i := hi + q) (by omega)
      have f5 := fl_set (l := swR m lo hi q) (i := lo + q) (by omega) ((swR m lo hi q).getD (hi + q) z2)
      have f6 := fl_has (l := (swR m lo hi q).set (lo + q) ((swR m lo hi q).getD (hi + q) z2)) (i := hi + q) (by simp; omega)
      have f7 := fl_set (l := (swR m lo hi q).set (lo + q) ((swR m lo hi q).getD (hi + q) z2)) (i := hi + q) (by simp; omega) ((swR m lo hi q).getD (lo + q) z2)
      simp only [go_sem, kn1, kn2, kn3, kn4, kn5, kn6, kn7, kn8, kn9, kz1, kz2, kz3, kz4, kz5, kz6, kz7, kz8, kz9, kz0, reduceCtorEq, String.reduceEq, kn0, kq1, kq2, kq3, kq4, Int.toNat_natCast, c', e1, e2, f1, f2, f3, f4, f5, f6, f7]
      exact ⟨by omega, by omega, by omega, by omega, by omega, by omega, by omega, by omega, by omega, q + 1, by omega, ⟨by omega, .refl _⟩, by omega⟩
    · have c' : ((q : Int) < (k : Int)) = False := eq_false (by omega)
      simp only [go_sem, kn1, kn2, kn3, kn4, kn5, kn6, kn7, kn8, kn9, kz1, kz2, kz3, kz4, kz5, kz6, kz7, kz8, kz9, kz0, reduceCtorEq, String.reduceEq, kn0, kq1, kq2, kq3, kq4, Int.toNat_natCast, c']
      rw [show q = k by omega]; exact h

/-- Two blocks, one behind the other, exchanged. -/
def rota (m : List D2) (lo md hi : Nat) : List D2 := m.take lo ++ ((m.take hi).drop md ++ ((m.take md).drop lo ++ m.drop hi))
theorem rota_perm {m : List D2} {lo md hi : Nat} (h1 : lo ≤ md) (h2 : md ≤ hi) (h3 : hi ≤ m.length) : (rota m lo md hi).Perm m := by
  have e : m = m.take lo ++ ((m.take md).drop lo ++ ((m.take hi).drop md ++ m.drop hi)) := by
    have a1 : m = m.take hi ++ m.drop hi := (List.take_append_drop _ _).symm
    have a2 : m.take hi = m.take md ++ (m.take hi).drop md := by
      have := (List.take_append_drop md (m.take hi)).symm
      rwa [List.take_take, Nat.min_eq_left h2] at this
    have a3 : m.take md = m.take lo ++ (m.take md).drop lo := by
      have := (List.take_append_drop lo (m.take md)).symm
      rwa [List.take_take, Nat.min_eq_left h1] at this
    rw [← List.append_assoc, ← List.append_assoc, ← a3, ← a2, ← a1]
  unfold rota
  conv => rhs; rw [e]
  refine .append_left _ ?_
  rw [← List.append_assoc, ← List.append_assoc]
  exact .append_right _ List.perm_append_comm
theorem rota_getD {m : List D2} {lo md hi : Nat} (h1 : lo ≤ md) (h2 : md ≤ hi) (h3 : hi ≤ m.length) (p : Nat) :
    (rota m lo md hi).getD p z2 = if lo ≤ p ∧ p < lo + (hi - md) then m.getD (p + (md - lo)) z2 else if lo + (hi - md) ≤ p ∧ p < hi then m.getD (p - (hi - md)) z2 else m.getD p z2 := by
  unfold rota
  simp only [List.getD_eq_getElem?_getD, List.getElem?_append, List.getElem?_take, List.getElem?_drop, List.length_take, List.length_drop]
  repeat' split
  all_goals first | rfl | omega | (congr 2; omega)
theorem rota_mix {m : List D2} {lo md hi : Nat} (h1 : lo ≤ md) (h2 : md ≤ hi) (h3 : hi ≤ m.length) : Mix m (rota m lo md hi) lo hi :=
  ⟨rota_perm h1 h2 h3, fun p hp => by rw [rota_getD h1 h2 h3, if_neg (by omega), if_neg (by omega)]⟩
theorem ext2 {m n : List D2} (hl : m.length = n.length) (h : ∀ p, m.getD p z2 = n.getD p z2) : m = n := by
  apply List.ext_getElem hl
  intro i h1 h2
  have := h i
  rwa [List.getD_eq_getElem?_getD, List.getD_eq_getElem?_getD, List.getElem?_eq_getElem h1, List.getElem?_eq_getElem h2] at this

theorem InO.put {om : Om} {id : Nat} {m n : List D2} (h : ∀ x ∈ n, x.wf) : InO (om.put id (fl n)) id n := ⟨by simp [Om.put], h⟩
noncomputable def c_slices_rotateCmpFunc_span_Span : Cn
  | [.ow id off len cap, .z a, .z b, .z c, .fn (.func f) [] []], om, K => ∃ (m : List D2) (lo md hi : Nat), InO om id m ∧ off = 0 ∧ a = lo ∧ b = md ∧ c = hi ∧ lo < md ∧ (md < hi ∧ hi ≤ len) ∧ (len ≤ m.length ∧ len ≤ 1073741824) ∧ K.k (.tup []) (om.put id (fl (rota m lo md hi)))
  | _, _, _ => False
theorem c_slices_rotateCmpFunc_span_Span_mono : Mono c_slices_rotateCmpFunc_span_Span := by
  intro args om K K' hK h
  unfold c_slices_rotateCmpFunc_span_Span at h ⊢
  split at h
  · obtain ⟨m, lo, hi, k, h1, h2, h3, h4, h5, h6, h7, h8, h9⟩ := h
    exact ⟨m, lo, hi, k, h1, h2, h3, h4, h5, h6, h7, h8, hK _ _ h9⟩
  · exact h.elim
noncomputable def cx_slices_rotateCmpFunc_span_Span : Cx := { T := T, E := E, cs := [(66, c_slices_swapRangeCmpFunc_span_Span)], sch := [], ob := [], qs := [], md := 2 }
@[go_sem] theorem cx_slices_rotateCmpFunc_span_Span_e : cx_slices_rotateCmpFunc_span_Span.gs = none ∧ cx_slices_rotateCmpFunc_span_Span.md = 2 ∧ cx_slices_rotateCmpFunc_span_Span.T = T ∧ cx_slices_rotateCmpFunc_span_Span.E = E ∧ cx_slices_rotateCmpFunc_span_Span.cs = [(66, c_slices_swapRangeCmpFunc_span_Span)] ∧ ∀ d, (cx_slices_rotateCmpFunc_span_Span.ob).contains d = false := ⟨rfl, rfl, rfl, rfl, rfl, fun _ => rfl⟩
theorem cok_slices_rotateCmpFunc_span_Span : COk Try.prog (cx_slices_rotateCmpFunc_span_Span) := cok_of rfl (.cons ok_slices_swapRangeCmpFunc_span_Span (.nil)) (.cons (fun h => absurd h (by decide)) (.nil)) (.nil)
theorem ok_slices_rotateCmpFunc_span_Span : Ok Try.prog 65 c_slices_rotateCmpFunc_span_Span := by
  refine ok_of_body1 cok_slices_rotateCmpFunc_span_Span mixed Try.func65 rfl (by kernel_rfl) (by kernel_rfl) c_slices_rotateCmpFunc_span_Span_mono fun args om Q hw h => ?_
  unfold c_slices_rotateCmpFunc_span_Span at h
  split at h <;> first | exact h.elim | skip
  rename_i om _ _ _ id off len cap a b c f
  obtain ⟨m, lo, md, hi, ⟨h1, h1'⟩, rfl, rfl, rfl, rfl, h2, ⟨h3, h6⟩, ⟨h4, h5⟩, h⟩ := h
  have rg := rota_getD (m := m) (lo := lo) (md := md) (hi := hi) (by omega) (by omega) (by omega)
  have rl := (rota_perm (m := m) (lo := lo) (md := md) (hi := hi) (by omega) (by omega) (by omega)).length_eq
  simp only [go_sem, Try.f65, kn1, kn2, kn3, kn4, kn5, kn6, kn7, kn8, kn9, kz1, kz2, kz3, kz4, kz5, kz6, kz7, kz8, kz9, kz0, reduceCtorEq, String.reduceEq, kn0, kq1, kq2, kq3, kq4, Int.toNat_natCast]
  refine ⟨by omega, by omega, Nat × Nat × List D2, fun q => ⟨[.ow id 0 len cap, .z lo, .z md, .z hi, .fn (.func f) [] [], .u, .u, .u, .u, .u, .z q.1, .z q.2.1, .u, .u, .u, .u, .u, .u, .u, .u, .u, .u, .u, .u, .u, .u, .u, .u, .u, .u, .u, .u, .u, .u, .u, .u, .u, .u, .u, .u, .u, .u, .u, .u, .u, .u, .u, .u, .u, .u, .u, .u, .u, .u, .u, .u, .u, .u], [], om.put id (fl q.2.2)⟩,
    fun q => 0 < q.1 ∧ 0 < q.2.1 ∧ lo + q.1 ≤ md ∧ md + q.2.1 ≤ hi ∧ q.2.2.length = m.length ∧ (∀ x ∈ q.2.2, x.wf) ∧ ∀ p, (rota m lo md hi).getD p z2 = (if md - q.1 ≤ p ∧ p < md - q.1 + q.2.1 then q.2.2.getD (p + q.1) z2 else if md - q.1 + q.2.1 ≤ p ∧ p < md + q.2.1 then q.2.2.getD (p - q.2.1) z2 else q.2.2.getD p z2), fun q => q.1 + q.2.1, ⟨(md - lo, hi - md, m), ?_, ?_⟩, ?_⟩
  · refine ⟨by show 0 < md - lo; omega, by show 0 < hi - md; omega, by show lo + (md - lo) ≤ md; omega, by show md + (hi - md) ≤ hi; omega, rfl, h1', fun p => ?_⟩
    show _ = if md - (md - lo) ≤ p ∧ p < md - (md - lo) + (hi - md) then m.getD (p + (md - lo)) z2 else if md - (md - lo) + (hi - md) ≤ p ∧ p < md + (hi - md) then m.getD (p - (hi - md)) z2 else m.getD p z2
    rw [rg, show md - (md - lo) = lo by omega, show md + (hi - md) = hi by omega]
  · simp only [go_sem, kn1, kn2, kn3, kn4, kn5, kn6, kn7, kn8, kn9, kz1, kz2, kz3, kz4, kz5, kz6, kz7, kz8, kz9, kz0, reduceCtorEq, String.reduceEq, kn0, kq1, kq2, kq3, kq4, Int.toNat_natCast]
    rw [om_put_self h1]
    exact ⟨⟨by show _ = ((md - lo : Nat) : Int); omega, by show _ = ((hi - md : Nat) : Int); omega⟩, .refl _⟩
  · rintro ⟨i, j, n⟩ ⟨g1, g2, g3, g4, g5, g6, g7⟩
    simp only at g1 g2 g3 g4 g5 g6 g7
    simp only [go_sem, kn1, kn2, kn3, kn4, kn5, kn6, kn7, kn8, kn9, kz1, kz2, kz3, kz4, kz5, kz6, kz7, kz8, kz9, kz0, reduceCtorEq, String.reduceEq, kn0, kq1, kq2, kq3, kq4, Int.toNat_natCast, c_slices_swapRangeCmpFunc_span_Span.eq_1]
    refine ⟨fun c => ⟨by omega, n, md - i, md, i, InO.put (m := m) g6, by omega, rfl, rfl, by omega, by omega, ⟨by omega, h5⟩, ?_⟩, fun c => ⟨fun c2 => ⟨by omega, n, md - i, md, j, InO.put (m := m) g6, by omega, rfl, rfl, by omega, by omega, ⟨by omega, h5⟩, by omega, (i - j, j, swR n (md - i) md j), ⟨by show 0 < i - j; omega, g2, by show lo + (i - j) ≤ md; omega, g4, (swR_len _ _ _ _).trans g5, swR_wf g6 _ _ _, ?_⟩, ⟨⟨by show _ = ((i - j : Nat) : Int); omega, rfl⟩, .refl _⟩, by show i - j + j < i + j; omega⟩,
      fun c2 => ⟨by omega, by omega, by omega, n, md - i, md + j - i, i, InO.put (m := m) g6, by omega, by omega, rfl, by omega, by omega, ⟨by omega, h5⟩, by omega, (i, j - i, swR n (md - i) (md + j - i) i), ⟨g1, by show 0 < j - i; omega, g3, by show md + (j - i) ≤ hi; omega, (swR_len _ _ _ _).trans g5, swR_wf g6 _ _ _, ?_⟩, ⟨⟨rfl, by show _ = ((j - i : Nat) : Int); omega⟩, .refl _⟩, by show i + (j - i) < i + j; omega⟩⟩⟩
    · rw [show swR n (md - i) md i = rota m lo md hi from ext2 (by rw [swR_len, g5, rl]) fun p => by
        rw [g7 p, swR_getD n (md - i) md i (by omega) (by omega) p]
        repeat' split
        all_goals first | rfl | omega | (congr 1; omega)]
      exact h
    · intro p
      show _ = if md - (i - j) ≤ p ∧ p < md - (i - j) + j then (swR n (md - i) md j).getD (p + (i - j)) z2 else if md - (i - j) + j ≤ p ∧ p < md + j then (swR n (md - i) md j).getD (p - j) z2 else (swR n (md - i) md j).getD p z2
      rw [g7 p, swR_getD n (md - i) md j (by omega) (by omega) (p + (i - j)), swR_getD n (md - i) md j (by omega) (by omega) (p - j), swR_getD n (md - i) md j (by omega) (by omega) p]
      repeat' split
      all_goals first | rfl | omega | (congr 1; omega)
    · intro p
      show _ = if md - i ≤ p ∧ p < md - i + (j - i) then (swR n (md - i) (md + j - i) i).getD (p + i) z2 else if md - i + (j - i) ≤ p ∧ p < md + (j - i) then (swR n (md - i) (md + j - i) i).getD (p - (j - i)) z2 else (swR n (md - i) (md + j - i) i).getD p z2
      rw [g7 p, swR_getD n (md - i) (md + j - i) i (by omega) (by omega) (p + i), swR_getD n (md - i) (md + j - i) i (by omega) (by omega) (p - (j - i)), swR_getD n (md - i) (md + j - i) i (by omega) (by omega) p]
      repeat' split
      all_goals first | rfl | omega | (congr 1; omega)
end Go.Proofs.Ytlcnohmnemmbdaa.I
