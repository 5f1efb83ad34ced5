/- Lists of spans in order; Apart. -/
import Derived.Test.YtlcnohmnemmbdaaSpan8
namespace Go.Proofs.Ytlcnohmnemmbdaa.I
open Go
open Nat renaming reduceEqDiff → kn1, reduceBEq → kn2, reducePow → kn3, reduceMod → kn4, reduceAdd → kn5, reduceSub → kn6, reduceMul → kn7, reduceDiv → kn8, reduceLeDiff → kn9, reduceLT → kn0, zero_lt_one → kq1, zero_add → kq2, zero_le → kq3, le_refl → kq4
open Int renaming reduceToNat → kz1, reduceAdd → kz2, reduceSub → kz3, reduceMul → kz4, reduceDiv → kz5, reduceMod → kz6, reduceLE → kz7, reduceLT → kz8, reduceNeg → kz9, reduceEq → kz0
set_option maxRecDepth 10000
set_option linter.unusedSimpArgs false
set_option linter.unusedVariables false

noncomputable def c_slices_SortStableFunc_span_Span_span_Span : Cn
  | [.ow id off len cap, .fn (.func f) [] []], om, K => ∃ m : List D2, InO om id m ∧ off = 0 ∧ f = 58 ∧ (len ≤ m.length ∧ len ≤ 30) ∧ ∀ m', Mix m m' 0 len → Srt m' 0 len → K.k (.tup []) (om.put id (fl m'))
  | [.sl [], .fn (.func f) [] []], om, K => f = 58 ∧ K.k (.tup []) om
  | _, _, _ => False
theorem c_slices_SortStableFunc_span_Span_span_Span_mono : Mono c_slices_SortStableFunc_span_Span_span_Span := by
  intro args om K K' hK h
  unfold c_slices_SortStableFunc_span_Span_span_Span at h ⊢
  split at h
  · obtain ⟨m, h1, h2, h3, h4, h5⟩ := h
    exact ⟨m, h1, h2, h3, h4, fun m' g g' => hK _ _ (h5 m' g g')⟩
  · exact ⟨h.1, hK _ _ h.2⟩
  · exact h.elim
noncomputable def cx_slices_SortStableFunc_span_Span_span_Span : Cx := { T := T, E := E, cs := [(62, c_slices_stableCmpFunc_span_Span)], sch := [], ob := [], qs := [], md := 2 }
@[go_sem] theorem cx_slices_SortStableFunc_span_Span_span_Span_e : cx_slices_SortStableFunc_span_Span_span_Span.gs = none ∧ cx_slices_SortStableFunc_span_Span_span_Span.md = 2 ∧ cx_slices_SortStableFunc_span_Span_span_Span.T = T ∧ cx_slices_SortStableFunc_span_Span_span_Span.E = E ∧ cx_slices_SortStableFunc_span_Span_span_Span.cs = [(62, c_slices_stableCmpFunc_span_Span)] ∧ ∀ d, (cx_slices_SortStableFunc_span_Span_span_Span.ob).contains d = false := ⟨rfl, rfl, rfl, rfl, rfl, fun _ => rfl⟩
theorem cok_slices_SortStableFunc_span_Span_span_Span : COk Try.prog (cx_slices_SortStableFunc_span_Span_span_Span) := cok_of rfl (.cons ok_slices_stableCmpFunc_span_Span (.nil)) (.cons (fun h => absurd h (by decide)) (.nil)) (.nil)
theorem ok_slices_SortStableFunc_span_Span_span_Span : Ok Try.prog 57 c_slices_SortStableFunc_span_Span_span_Span := by
  refine ok_of_body1 cok_slices_SortStableFunc_span_Span_span_Span mixed Try.func57 rfl (by kernel_rfl) (by kernel_rfl) c_slices_SortStableFunc_span_Span_span_Span_mono fun args om Q hw h => ?_
  unfold c_slices_SortStableFunc_span_Span_span_Span at h
  split at h <;> first | exact h.elim | skip
  · rename_i om _ _ _ id off len cap f
    obtain ⟨m, h1, rfl, rfl, h2, h⟩ := h
    simp only [go_sem, Try.f57, kn1, kn2, kn3, kn4, kn5, kn6, kn7, kn8, kn9, kz1, kz2, kz3, kz4, kz5, kz6, kz7, kz8, kz9, kz0, reduceCtorEq, String.reduceEq, kn0, kq1, kq2, kq3, kq4, Int.toNat_natCast, c_slices_stableCmpFunc_span_Span.eq_1]
    exact ⟨m, len, h1, rfl, rfl, h2, h⟩
  · obtain ⟨rfl, h⟩ := h
    simp only [go_sem, Try.f57, kn1, kn2, kn3, kn4, kn5, kn6, kn7, kn8, kn9, kz1, kz2, kz3, kz4, kz5, kz6, kz7, kz8, kz9, kz0, reduceCtorEq, String.reduceEq, kn0, kq1, kq2, kq3, kq4, Int.toNat_natCast, c_slices_stableCmpFunc_span_Span.eq_2]
    exact h

theorem mix_front {l r m : List D2} (h : Mix (l ++ r) m 0 l.length) : ∃ ys, m = ys ++ r ∧ ys.Perm l := by
  have hl := h.len
  simp only [List.length_append] at hl
  have e2 : m.drop l.length = r := by
    refine ext2 (by simp; omega) fun q => ?_
    have := h.2 (l.length + q) (.inr (by omega))
    simpa [List.getD_eq_getElem?_getD, List.getElem?_drop, List.getElem?_append, show ¬ l.length + q < l.length by omega] using this
  refine ⟨m.take l.length, ?_, ?_⟩
  · have := (List.take_append_drop l.length m).symm
    rwa [e2] at this
  · have := h.1
    rw [← List.take_append_drop l.length m, e2] at this
    exact (List.perm_append_right_iff _).1 this
/-- In order. -/
def Sorted (l : List D2) : Prop := l.Pairwise fun s t => s.a ≤ t.a
theorem sorted_of {ys r : List D2} (h : Srt (ys ++ r) 0 ys.length) : Sorted ys := by
  rw [Sorted, List.pairwise_iff_getElem]
  intro i j hi hj hij
  have := h i j (Nat.zero_le _) hij hj
  simpa [List.getD_eq_getElem?_getD, List.getElem?_append, hi, hj] using this

noncomputable def c_span_sorted : Cn
  | [.sl vs], om, K => @so _ (decs t2 vs) ⟨fun l => l.length ≤ 30 ∧ (l = [] → K.k (.sl []) om) ∧ (0 < l.length → ∀ id, om id = none → ∀ cap ys r, cap ≤ longest → ys.Perm (full l) → Sorted ys → (∀ x ∈ ys ++ r, x.wf) → (ys ++ r).length ≤ cap → K.k (.ow id 0 ys.length cap) (om.put id (fl (ys ++ r))))⟩
  | _, _, _ => False
theorem c_span_sorted_mono : Mono c_span_sorted := by
  intro args om K K' hK h
  unfold c_span_sorted at h ⊢
  split at h
  · exact mono_so (fun l h => ⟨h.1, fun e => hK _ _ (h.2.1 e), fun e id hid cap ys r g1 g2 g3 g4 g5 => hK _ _ (h.2.2 e id hid cap ys r g1 g2 g3 g4 g5)⟩) h
  · exact h.elim
theorem quiet_span_sorted : Quiet c_span_sorted := by
  intro args om K h
  unfold c_span_sorted at h ⊢
  split at h
  · exact mono_so (fun l h => ⟨h.1, fun e => ⟨.refl _, h.2.1 e⟩, fun e id hid cap ys r g1 g2 g3 g4 g5 => ⟨.put hid (.refl _), h.2.2 e id hid cap ys r g1 g2 g3 g4 g5⟩⟩) h
  · exact h.elim
noncomputable def cx_span_sorted : Cx := { T := T, E := E, cs := [(54, c_slices_DeleteFunc_span_Span_span_Span), (55, c_slices_Clone_span_Span_span_Span), (56, c_span_sorted_1), (57, c_slices_SortStableFunc_span_Span_span_Span), (58, c_span_sorted_2)], sch := [], ob := [], qs := [55, 56, 58], md := 2 }
@[go_sem] theorem cx_span_sorted_e : cx_span_sorted.gs = none ∧ cx_span_sorted.md = 2 ∧ cx_span_sorted.T = T ∧ cx_span_sorted.E = E ∧ cx_span_sorted.cs = [(54, c_slices_DeleteFunc_span_Span_span_Span), (55, c_slices_Clone_span_Span_span_Span), (56, c_span_sorted_1), (57, c_slices_SortStableFunc_span_Span_span_Span), (58, c_span_sorted_2)] ∧ ∀ d, (cx_span_sorted.ob).contains d = false := ⟨rfl, rfl, rfl, rfl, rfl, fun _ => rfl⟩
theorem cok_span_sorted : COk Try.prog (cx_span_sorted) := cok_of rfl (.cons ok_slices_DeleteFunc_span_Span_span_Span (.cons ok_slices_Clone_span_Span_span_Span (.cons ok_span_sorted_1 (.cons ok_slices_SortStableFunc_span_Span_span_Span (.cons ok_span_sorted_2 (.nil)))))) (.cons (fun h => absurd h (by decide)) (.cons (fun _ => quiet_slices_Clone_span_Span_span_Span) (.cons (fun _ => fn1_quiet) (.cons (fun h => absurd h (by decide)) (.cons (fun _ => fn2_quiet) (.nil)))))) (.nil)
theorem ok_span_sorted : Ok Try.prog 43 c_span_sorted := by
  refine ok_of_body1 cok_span_sorted mixed Try.func43 rfl (by kernel_rfl) (by kernel_rfl) c_span_sorted_mono fun args om Q hw h => ?_
  unfold c_span_sorted at h
  split at h <;> first | exact h.elim | skip
  rename_i om _ _ _ vs
  replace h := so_inv h; obtain ⟨l, hl, h0, h1, h2⟩ := h
  obtain rfl := els_decs t2 _ _ hl
  rw [show els t2.enc l = els v2 l from rfl] at hw ⊢
  have hb := wf_e2 hw
  simp only [go_sem, Try.f43, kn1, kn2, kn3, kn4, kn5, kn6, kn7, kn8, kn9, kz1, kz2, kz3, kz4, kz5, kz6, kz7, kz8, kz9, kz0, reduceCtorEq, String.reduceEq, kn0, kq1, kq2, kq3, kq4, Int.toNat_natCast, c_slices_DeleteFunc_span_Span_span_Span.eq_1, c_slices_DeleteFunc_span_Span_span_Span.eq_2, c_slices_SortStableFunc_span_Span_span_Span.eq_1, c_slices_SortStableFunc_span_Span_span_Span.eq_2]
  have wz : ∀ n, ∀ x ∈ List.replicate n z2, x.wf := fun n x hx => by rw [List.eq_of_mem_replicate hx]; exact ⟨by show 0 < _; omega, by show 0 < _; omega⟩
  refine ⟨by omega, h1, fun e id hid cap g1 g2 _ => ⟨l, List.replicate (cap - l.length) z2, InO.put (m := l) (fun x hx => (List.mem_append.1 hx).elim (hb.2 x) (wz _ x)), rfl, by simp; omega, fun r' q1 q2 _ => ?_⟩⟩
  have wf' : ∀ x ∈ full l ++ r', x.wf := fun x hx => (List.mem_append.1 hx).elim (fun hx => hb.2 x (full_mem hx)) (q2 x)
  refine ⟨full l ++ r', InO.put (m := l) wf', ⟨by simp, Nat.le_trans (full_le l) h0⟩, fun m' M T => ?_⟩
  obtain ⟨ys, rfl, hp⟩ := mix_front M
  have hl := hp.length_eq
  have := h2 e id hid cap ys r' (by rw [longest_eq]; exact g2) hp (sorted_of (by rw [hl]; exact T)) (M.wf wf') (by rw [M.len, q1]; simp; omega)
  rw [hl] at this
  exact this

theorem meets_comm (s t : D2) : meets s t ↔ meets t s := by unfold meets; omega
theorem meets_emp {s : D2} (h : isEmp s = true) (t : D2) : ¬ meets s t := by
  simp only [isEmp, decide_eq_true_eq] at h
  unfold meets; omega
/-- All may be, and no two meet. -/
def apart (l : List D2) : Prop := (∀ x ∈ l, x.a ≤ x.b) ∧ l.Pairwise fun s t => ¬ meets s t
open Classical in
noncomputable def apartB (l : List D2) : Bool := decide (apart l)
theorem apartB_no {l : List D2} (h : ¬ apart l) : apartB l = false := by unfold apartB; simp [h]
theorem apartB_yes {l : List D2} (h : apart l) : apartB l = true := by unfold apartB; simp [h]
theorem pair_full {l : List D2} : l.Pairwise (fun s t => ¬ meets s t) ↔ (full l).Pairwise fun s t => ¬ meets s t := by
  induction l with
  | nil => exact Iff.rfl
  | cons x l ih =>
    unfold full at ih ⊢
    rw [List.pairwise_cons, ih]
    by_cases h : isEmp x = true
    · rw [List.filter_cons_of_neg (by simp [h])]
      exact ⟨fun g => g.2, fun g => ⟨fun y _ => meets_emp h y, g⟩⟩
    · rw [List.filter_cons_of_pos (by simpa using h), List.pairwise_cons]
      refine ⟨fun g => ⟨fun y hy => g.1 y (List.mem_filter.1 hy).1, g.2⟩, fun g => ⟨fun y hy => ?_, g.2⟩⟩
      by_cases h2 : isEmp y = true
      · exact fun m => meets_emp h2 x ((meets_comm _ _).1 m)
      · exact g.1 y (List.mem_filter.2 ⟨hy, by simpa using h2⟩)
theorem pair_perm {l m : List D2} (h : l.Perm m) : l.Pairwise (fun s t => ¬ meets s t) ↔ m.Pairwise fun s t => ¬ meets s t :=
  h.pairwise_iff fun g m => g ((meets_comm _ _).1 m)
/-- Sorted ones that have places: no two meet just if no neighbours do. -/
theorem pair_adj {l : List D2} (hs : Sorted l) (hn : ∀ x ∈ l, isEmp x = false) (ha : ∀ k, 1 ≤ k → k < l.length → ¬ meets (l.getD (k - 1) z2) (l.getD k z2)) : l.Pairwise fun s t => ¬ meets s t := by
  have hg : ∀ i, (h : i < l.length) → l.getD i z2 = l[i] := fun i h => by simp [List.getD_eq_getElem?_getD, h]
  have step : ∀ k, (h : k + 1 < l.length) → l[k].b ≤ l[k + 1].a := fun k h => by
    have := ha (k + 1) (by omega) h
    rw [hg _ h, show k + 1 - 1 = k from rfl, hg _ (by omega)] at this
    have h1 := hn l[k] (List.getElem_mem _)
    have h2 := hn l[k + 1] (List.getElem_mem _)
    have h3 := (List.pairwise_iff_getElem.1 hs) k (k + 1) (by omega) h (by omega)
    simp only [isEmp, decide_eq_false_iff_not] at h1 h2
    unfold meets at this; omega
  have far : ∀ d k, (h : k + 1 + d < l.length) → l[k].b ≤ (l[k + 1 + d]'h).a := fun d => by
    induction d with
    | zero => exact step
    | succ d ih =>
      intro k h
      have h1 := ih k (by omega)
      have h2 := step (k + 1 + d) (by omega)
      have h3 := hn (l[k + 1 + d]'(by omega)) (List.getElem_mem _)
      simp only [isEmp, decide_eq_false_iff_not] at h3
      show l[k].b ≤ (l[k + 1 + d + 1]'(by omega)).a
      omega
  rw [List.pairwise_iff_getElem]
  intro i j hi hj hij
  have := far (j - i - 1) i (by omega)
  simp only [show i + 1 + (j - i - 1) = j by omega] at this
  have h1 := hn l[i] (List.getElem_mem _)
  have h2 := hn l[j] (List.getElem_mem _)
  simp only [isEmp, decide_eq_false_iff_not] at h1 h2
  unfold meets; omega
theorem bad_none {l : List D2} : ixf isBad l = l.length ↔ ∀ x ∈ l, x.a ≤ x.b := by
  constructor
  · intro h x hx
    obtain ⟨i, hi, rfl⟩ := List.getElem_of_mem hx
    have := ixf_before (p := isBad) (l := l) (k := i) (by omega)
    rw [List.getD_eq_getElem?_getD, List.getElem?_eq_getElem hi] at this
    simpa [isBad] using this
  · intro h
    refine ixf_eq (Nat.le_refl _) (fun j hj => ?_) fun g => absurd g (Nat.lt_irrefl _)
    rw [List.getD_eq_getElem?_getD, List.getElem?_eq_getElem hj]
    simpa [isBad] using h _ (List.getElem_mem hj)
@[go_sem] noncomputable def c_span_Apart : Cn := fn1 (tL t2) (fun l => l.length ≤ 30) fun l => .b (apartB l)
noncomputable def cx_span_Apart : Cx := { T := T, E := E, cs := [(19, c_span_Meet), (41, c_slices_ContainsFunc_span_Span_span_Span), (42, c_span_Apart_1), (43, c_span_sorted)], sch := [(7, false, .take 0 (.take 1 (.take 2 (.take 3 (.take 4 (.take 5 (.take 6 (.take 7 (.take 8 (.alt 9 (.done) .no))))))))))], ob := [], qs := [19, 41, 42, 43] }
@[go_sem] theorem cx_span_Apart_e : cx_span_Apart.gs = none ∧ cx_span_Apart.md = 0 ∧ cx_span_Apart.T = T ∧ cx_span_Apart.E = E ∧ cx_span_Apart.cs = [(19, c_span_Meet), (41, c_slices_ContainsFunc_span_Span_span_Span), (42, c_span_Apart_1), (43, c_span_sorted)] ∧ cx_span_Apart.sch = [(7, false, .take 0 (.take 1 (.take 2 (.take 3 (.take 4 (.take 5 (.take 6 (.take 7 (.take 8 (.alt 9 (.done) .no))))))))))] ∧ ∀ d, (cx_span_Apart.ob).contains d = false := ⟨rfl, rfl, rfl, rfl, rfl, rfl, fun _ => rfl⟩
theorem cok_span_Apart : COk Try.prog (cx_span_Apart) := cok_of rfl (.cons ok_span_Meet (.cons ok_slices_ContainsFunc_span_Span_span_Span (.cons ok_span_Apart_1 (.cons ok_span_sorted (.nil))))) (.cons (fun _ => fn2_quiet) (.cons (fun _ => quiet_slices_ContainsFunc_span_Span_span_Span) (.cons (fun _ => fn1_quiet) (.cons (fun _ => quiet_span_sorted) (.nil))))) (.nil)
set_option maxHeartbeats 1000000 in
theorem ok_span_Apart : Ok Try.prog 21 c_span_Apart := by
  refine ok_fn1 cok_span_Apart mixed Try.func21 rfl (by kernel_rfl) (by kernel_rfl) rfl ?_
  intro l om hw hl
  have hb := wf_e2 hw
  by_cases c1 : ixf isBad l < l.length
  · have c1' : (ixf isBad l < l.length) = True := eq_true c1
    have e : apartB l = false := apartB_no fun h => by have := bad_none.2 h.1; omega
    simp only [go_sem, Try.f21, kn1, kn2, kn3, kn4, kn5, kn6, kn7, kn8, kn9, kz1, kz2, kz3, kz4, kz5, kz6, kz7, kz8, kz9, kz0, reduceCtorEq, String.reduceEq, kn0, kq1, kq2, kq3, kq4, Int.toNat_natCast, c1', e]
  have c1' : (ixf isBad l < l.length) = False := eq_false c1
  have hg : ∀ x ∈ l, x.a ≤ x.b := bad_none.1 (by have := ixf_le isBad l; omega)
  simp only [go_sem, Try.f21, kn1, kn2, kn3, kn4, kn5, kn6, kn7, kn8, kn9, kz1, kz2, kz3, kz4, kz5, kz6, kz7, kz8, kz9, kz0, reduceCtorEq, String.reduceEq, kn0, kq1, kq2, kq3, kq4, Int.toNat_natCast, c1', c_span_sorted.eq_1]
  refine ⟨hl, fun e => ?_, fun e id hid cap ys r g1 g2 g3 g4 g5 g6 => ?_⟩
  · subst e
    have e : apartB [] = true := apartB_yes ⟨fun x hx => absurd hx List.not_mem_nil, .nil⟩
    refine ⟨Unit, fun _ => ⟨[.sl [], .u, .b false, .sl [], .z 1, .u, .u, .u, .u, .u, .u, .u, .u, .u, .u, .u, .u, .u, .u, .u, .u, .u, .u, .u, .u], [], om⟩, fun _ => True, fun _ => 0, ⟨(), trivial, ?_⟩, ?_⟩
    · simp only [go_sem, kn1, kn2, kn3, kn4, kn5, kn6, kn7, kn8, kn9, kz1, kz2, kz3, kz4, kz5, kz6, kz7, kz8, kz9, kz0, reduceCtorEq, String.reduceEq, kn0, kq1, kq2, kq3, kq4, Int.toNat_natCast, els_nil]
    · intro _ _
      simp only [go_sem, kn1, kn2, kn3, kn4, kn5, kn6, kn7, kn8, kn9, kz1, kz2, kz3, kz4, kz5, kz6, kz7, kz8, kz9, kz0, reduceCtorEq, String.reduceEq, kn0, kq1, kq2, kq3, kq4, Int.toNat_natCast, e]
  have ef : ∀ x ∈ ys, isEmp x = false := fun x hx => by
    have := (List.mem_filter.1 (g2.mem_iff.1 hx)).2
    simpa using this
  have lr : (ys ++ r).length = ys.length + r.length := List.length_append
  have gy : ∀ j, j < ys.length → (ys ++ r).getD j z2 = ys.getD j z2 := fun j hj => by simp [List.getD_eq_getElem?_getD, List.getElem?_append, hj]
  refine ⟨Nat, fun k => ⟨[.sl (els v2 l), .u, .b false, .ow id 0 ys.length cap, .z k, .u, .u, .u, .u, .u, .u, .u, .u, .u, .u, .u, .u, .u, .u, .u, .u, .u, .u, .u, .u], [], om.put id (fl (ys ++ r))⟩,
    fun k => 1 ≤ k ∧ k ≤ ys.length + 1 ∧ ∀ j, 1 ≤ j → j < k → j < ys.length → ¬ meets (ys.getD (j - 1) z2) (ys.getD j z2), fun k => ys.length + 1 - k, ⟨1, ⟨Nat.le_refl _, by omega, fun j h1 h2 => by omega⟩, ?_⟩, ?_⟩
  · simp only [go_sem, kn1, kn2, kn3, kn4, kn5, kn6, kn7, kn8, kn9, kz1, kz2, kz3, kz4, kz5, kz6, kz7, kz8, kz9, kz0, reduceCtorEq, String.reduceEq, kn0, kq1, kq2, kq3, kq4, Int.toNat_natCast]
  · rintro k ⟨k1, k2, k3⟩
    by_cases c : k < ys.length
    · have c' : ((k : Int) < (ys.length : Int)) = True := eq_true (by omega)
      have ek : ((k : Int) - 1).toNat = k - 1 := by omega
      have f1 := fl_has (l := ys ++ r) (i := k - 1) (by omega)
      have f2 := fl_get (l := ys ++ r) (i := k - 1) (by omega)
      have f3 := fl_has (l := ys ++ r) (i := k) (by omega)
      have f4 := fl_get (l := ys ++ r) (i := k) (by omega)
      rw [gy _ (by omega)] at f2
      rw [gy _ c] at f4
      by_cases hm : meets (ys.getD (k - 1) z2) (ys.getD k z2)
      · have hm' : meets (ys.getD (k - 1) z2) (ys.getD k z2) = True := eq_true hm
        have e2 : apartB l = false := apartB_no fun h => by
          have h2 := (pair_perm g2).2 (pair_full.1 h.2)
          rw [List.pairwise_iff_getElem] at h2
          have := h2 (k - 1) k (by omega) c (by omega)
          rw [List.getD_eq_getElem?_getD, List.getD_eq_getElem?_getD, List.getElem?_eq_getElem c, List.getElem?_eq_getElem (by omega : k - 1 < ys.length)] at hm
          exact this hm
        simp only [go_sem, kn1, kn2, kn3, kn4, kn5, kn6, kn7, kn8, kn9, kz1, kz2, kz3, kz4, kz5, kz6, kz7, kz8, kz9, kz0, reduceCtorEq, String.reduceEq, kn0, kq1, kq2, kq3, kq4, Int.toNat_natCast, c', ek, f1, f2, f3, f4, hm', e2]
        exact ⟨by omega, by omega, by omega, .put hid (.refl _)⟩
      · have hm' : meets (ys.getD (k - 1) z2) (ys.getD k z2) = False := eq_false hm
        simp only [go_sem, kn1, kn2, kn3, kn4, kn5, kn6, kn7, kn8, kn9, kz1, kz2, kz3, kz4, kz5, kz6, kz7, kz8, kz9, kz0, reduceCtorEq, String.reduceEq, kn0, kq1, kq2, kq3, kq4, Int.toNat_natCast, c', ek, f1, f2, f3, f4, hm']
        refine ⟨by omega, by omega, by omega, by omega, k + 1, ⟨by omega, by omega, fun j h1 h2 h3 => ?_⟩, by omega, by omega⟩
        by_cases ej : j = k
        · rw [ej]; exact hm
        · exact k3 j h1 (by omega) h3
    · have c' : ((k : Int) < (ys.length : Int)) = False := eq_false (by omega)
      have e2 : apartB l = true := apartB_yes ⟨hg, pair_full.2 ((pair_perm g2).1 (pair_adj g3 ef fun j h1 h2 => k3 j h1 (by omega) h2))⟩
      simp only [go_sem, kn1, kn2, kn3, kn4, kn5, kn6, kn7, kn8, kn9, kz1, kz2, kz3, kz4, kz5, kz6, kz7, kz8, kz9, kz0, reduceCtorEq, String.reduceEq, kn0, kq1, kq2, kq3, kq4, Int.toNat_natCast, c', e2]
      exact .put hid (.refl _)
end Go.Proofs.Ytlcnohmnemmbdaa.I
