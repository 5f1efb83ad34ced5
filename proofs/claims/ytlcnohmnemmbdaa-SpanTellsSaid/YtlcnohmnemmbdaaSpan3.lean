/- Lists of spans: Clone, IndexFunc, ContainsFunc, DeleteFunc. -/
import Derived.Test.YtlcnohmnemmbdaaRow4
namespace Go.Proofs.Ytlcnohmnemmbdaa.I
open Go
open Nat renaming reduceEqDiff → kn1, reduceBEq → kn2, reducePow → kn3, reduceMod → kn4, reduceAdd → kn5, reduceSub → kn6, reduceMul → kn7, reduceDiv → kn8, reduceLeDiff → kn9, reduceLT → kn0, zero_lt_one → kq1, zero_add → kq2, zero_le → kq3, le_refl → kq4
open Int renaming reduceToNat → kz1, reduceAdd → kz2, reduceSub → kz3, reduceMul → kz4, reduceDiv → kz5, reduceMod → kz6, reduceLE → kz7, reduceLT → kz8, reduceNeg → kz9, reduceEq → kz0
set_option maxRecDepth 10000
set_option linter.unusedSimpArgs false
set_option linter.unusedVariables false

/-- A row of its own. -/
noncomputable def c_slices_Clone_span_Span_span_Span : Cn
  | [a], om, K => @so _ ((tL t2).dec a) ⟨fun l => l.length ≤ 1073741824 ∧ (l = [] → K.k .nils om ∧ K.k (.lit []) om) ∧ (0 < l.length → ∀ id, om id = none → ∀ cap, l.length ≤ cap → cap ≤ longest → K.k (.ow id 0 l.length cap) (om.put id (fl (l ++ List.replicate (cap - l.length) z2))))⟩
  | _, _, _ => False
attribute [go_sem] c_slices_Clone_span_Span_span_Span.eq_1
theorem c_slices_Clone_span_Span_span_Span_mono : Mono c_slices_Clone_span_Span_span_Span := by
  intro args om K K' hK h
  unfold c_slices_Clone_span_Span_span_Span at h ⊢
  split at h
  · exact mono_so (fun x h => ⟨h.1, fun e => ⟨hK _ _ (h.2.1 e).1, hK _ _ (h.2.1 e).2⟩, fun h0 id hid cap h1 h2 => hK _ _ (h.2.2 h0 id hid cap h1 h2)⟩) h
  · exact h.elim
theorem quiet_slices_Clone_span_Span_span_Span : Quiet c_slices_Clone_span_Span_span_Span := by
  intro args om K h
  unfold c_slices_Clone_span_Span_span_Span at h ⊢
  split at h
  · exact mono_so (fun x h => ⟨h.1, fun e => ⟨⟨.refl _, (h.2.1 e).1⟩, ⟨.refl _, (h.2.1 e).2⟩⟩, fun h0 id hid cap h1 h2 => ⟨.put hid (.refl _), h.2.2 h0 id hid cap h1 h2⟩⟩) h
  · exact h.elim
noncomputable def cx_slices_Clone_span_Span_span_Span : Cx := { T := T, E := E, cs := [], sch := [], ob := [7], qs := [], md := 2 }
@[go_sem] theorem cx_slices_Clone_span_Span_span_Span_e : cx_slices_Clone_span_Span_span_Span.gs = none ∧ cx_slices_Clone_span_Span_span_Span.md = 2 ∧ cx_slices_Clone_span_Span_span_Span.T = T ∧ cx_slices_Clone_span_Span_span_Span.E = E ∧ cx_slices_Clone_span_Span_span_Span.cs = [] ∧ cx_slices_Clone_span_Span_span_Span.ob = [7] := ⟨rfl, rfl, rfl, rfl, rfl, rfl⟩
theorem cok_slices_Clone_span_Span_span_Span : COk Try.prog (cx_slices_Clone_span_Span_span_Span) := cok_of rfl (.nil) (.nil) (.nil)
theorem ok_slices_Clone_span_Span_span_Span : Ok Try.prog 55 c_slices_Clone_span_Span_span_Span := by
  refine ok_of_body1 cok_slices_Clone_span_Span_span_Span mixed Try.func55 rfl (by kernel_rfl) (by kernel_rfl) c_slices_Clone_span_Span_span_Span_mono fun args om Q hw h => ?_
  unfold c_slices_Clone_span_Span_span_Span at h
  split at h <;> first | exact h.elim | skip
  rename_i om _ _ _ a
  replace h := so_inv h; obtain ⟨l, hl, h0, h1, h2⟩ := h
  obtain rfl := (tL t2).h2 _ _ hl
  simp only [go_sem] at h1 h2
  simp only [go_sem, Try.f55, kn1, kn2, kn3, kn4, kn5, kn6, kn7, kn8, kn9, kz1, kz2, kz3, kz4, kz5, kz6, kz7, kz8, kz9, kz0, reduceCtorEq, String.reduceEq]
  exact ⟨fun e => (h1 e).1, fun e => (h1 e).2, fun h => ⟨by omega, h2 h⟩⟩

@[go_sem] noncomputable def c_span_sorted_1 : Cn := fn1 t2 (fun _ => True) fun s => .b (decide (s.b - s.a = 0))
noncomputable def cx_span_sorted_1 : Cx := { T := T, E := E, cs := [(15, c_span_Len)], sch := [], ob := [], qs := [15] }
@[go_sem] theorem cx_span_sorted_1_e : cx_span_sorted_1.gs = none ∧ cx_span_sorted_1.md = 0 ∧ cx_span_sorted_1.T = T ∧ cx_span_sorted_1.E = E ∧ cx_span_sorted_1.cs = [(15, c_span_Len)] ∧ ∀ d, (cx_span_sorted_1.ob).contains d = false := ⟨rfl, rfl, rfl, rfl, rfl, fun _ => rfl⟩
theorem cok_span_sorted_1 : COk Try.prog (cx_span_sorted_1) := cok_of rfl (.cons ok_span_Len (.nil)) (.cons (fun _ => fn1_quiet) (.nil)) (.nil)
theorem ok_span_sorted_1 : Ok Try.prog 56 c_span_sorted_1 := by
  refine ok_fn1 cok_span_sorted_1 mixed Try.func56 rfl (by kernel_rfl) (by kernel_rfl) rfl ?_
  intro s om hw _
  simp only [go_sem, Try.f56, kn1, kn2, kn3, kn4, kn5, kn6, kn7, kn8, kn9, kz1, kz2, kz3, kz4, kz5, kz6, kz7, kz8, kz9, kz0, reduceCtorEq, String.reduceEq, kn0, kq1, kq2, kq3, kq4, Int.toNat_natCast, w_zero]
@[go_sem] noncomputable def c_span_sorted_2 : Cn := fn2 t2 t2 (fun _ _ => True) fun s t => .z (cmpN s.a t.a)
noncomputable def cx_span_sorted_2 : Cx := { T := T, E := E, cs := [(30, c_wide_Cmp)], sch := [], ob := [], qs := [30] }
@[go_sem] theorem cx_span_sorted_2_e : cx_span_sorted_2.gs = none ∧ cx_span_sorted_2.md = 0 ∧ cx_span_sorted_2.T = T ∧ cx_span_sorted_2.E = E ∧ cx_span_sorted_2.cs = [(30, c_wide_Cmp)] ∧ ∀ d, (cx_span_sorted_2.ob).contains d = false := ⟨rfl, rfl, rfl, rfl, rfl, fun _ => rfl⟩
theorem cok_span_sorted_2 : COk Try.prog (cx_span_sorted_2) := cok_of rfl (.cons ok_wide_Cmp (.nil)) (.cons (fun _ => fn2_quiet) (.nil)) (.nil)
theorem ok_span_sorted_2 : Ok Try.prog 58 c_span_sorted_2 := by
  refine ok_fn2 cok_span_sorted_2 mixed Try.func58 rfl (by kernel_rfl) (by kernel_rfl) rfl ?_
  intro s t om hw _
  simp only [go_sem, Try.f58, kn1, kn2, kn3, kn4, kn5, kn6, kn7, kn8, kn9, kz1, kz2, kz3, kz4, kz5, kz6, kz7, kz8, kz9, kz0, reduceCtorEq, String.reduceEq, kn0, kq1, kq2, kq3, kq4, Int.toNat_natCast]
@[go_sem] noncomputable def c_span_Apart_1 : Cn := fn1 t2 (fun _ => True) fun s => .b (!decide (s.a ≤ s.b))
noncomputable def cx_span_Apart_1 : Cx := { T := T, E := E, cs := [(13, c_span_Right)], sch := [], ob := [], qs := [13] }
@[go_sem] theorem cx_span_Apart_1_e : cx_span_Apart_1.gs = none ∧ cx_span_Apart_1.md = 0 ∧ cx_span_Apart_1.T = T ∧ cx_span_Apart_1.E = E ∧ cx_span_Apart_1.cs = [(13, c_span_Right)] ∧ ∀ d, (cx_span_Apart_1.ob).contains d = false := ⟨rfl, rfl, rfl, rfl, rfl, fun _ => rfl⟩
theorem cok_span_Apart_1 : COk Try.prog (cx_span_Apart_1) := cok_of rfl (.cons ok_span_Right (.nil)) (.cons (fun _ => fn1_quiet) (.nil)) (.nil)
theorem ok_span_Apart_1 : Ok Try.prog 42 c_span_Apart_1 := by
  refine ok_fn1 cok_span_Apart_1 mixed Try.func42 rfl (by kernel_rfl) (by kernel_rfl) rfl ?_
  intro s om hw _
  simp only [go_sem, Try.f42, kn1, kn2, kn3, kn4, kn5, kn6, kn7, kn8, kn9, kz1, kz2, kz3, kz4, kz5, kz6, kz7, kz8, kz9, kz0, reduceCtorEq, String.reduceEq, kn0, kq1, kq2, kq3, kq4, Int.toNat_natCast]

/-- The first place of one that is so, or how many there are. -/
def ixf (p : D2 → Bool) : List D2 → Nat
  | [] => 0
  | x :: l => if p x = true then 0 else ixf p l + 1
theorem ixf_le (p : D2 → Bool) (l : List D2) : ixf p l ≤ l.length := by
  induction l with
  | nil => exact Nat.le_refl _
  | cons x l ih => unfold ixf; split <;> simp <;> omega
theorem ixf_at {p : D2 → Bool} {l : List D2} (h : ixf p l < l.length) : p (l.getD (ixf p l) z2) = true := by
  induction l with
  | nil => simp [ixf] at h
  | cons x l ih =>
    unfold ixf at h ⊢
    split
    · rename_i e; exact e
    · rename_i e
      rw [if_neg e] at h
      rw [List.getD_cons_succ]
      exact ih (by simpa using h)
theorem ixf_before {p : D2 → Bool} {l : List D2} {k : Nat} (h : k < ixf p l) : p (l.getD k z2) = false := by
  induction l generalizing k with
  | nil => simp [ixf] at h
  | cons x l ih =>
    unfold ixf at h
    split at h
    · omega
    · rename_i e
      cases k with
      | zero => simpa using e
      | succ k => rw [List.getD_cons_succ]; exact ih (by omega)
theorem ixf_eq {p : D2 → Bool} {l : List D2} {k : Nat} (hk : k ≤ l.length) (h : ∀ j, j < k → p (l.getD j z2) = false) (h' : k < l.length → p (l.getD k z2) = true) : ixf p l = k := by
  have h1 := ixf_le p l
  rcases Nat.lt_trichotomy (ixf p l) k with h2 | h2 | h2
  · have := ixf_at (p := p) (l := l) (by omega); rw [h _ h2] at this; cases this
  · exact h2
  · have := ixf_before h2; rw [h' (by omega)] at this; cases this
def isEmp (s : D2) : Bool := decide (s.b - s.a = 0)
def isBad (s : D2) : Bool := !decide (s.a ≤ s.b)
def ixZ (p : D2 → Bool) (l : List D2) : Int := if ixf p l < l.length then (ixf p l : Int) else -1

/-- A row in an object: so many spans there. -/
def InO (om : Om) (id : Nat) (m : List D2) : Prop := om id = some (fl m) ∧ ∀ x ∈ m, x.wf
noncomputable def c_slices_IndexFunc_span_Span_span_Span : Cn
  | [.sl vs, .fn (.func f) [] []], om, K => @so _ (decs t2 vs) ⟨fun l => (f = 42 ∧ K.k (.z (ixZ isBad l)) om) ∨ (f = 56 ∧ K.k (.z (ixZ isEmp l)) om)⟩
  | [.ow id off len cap, .fn (.func f) [] []], om, K => ∃ m, InO om id m ∧ off = 0 ∧ len ≤ m.length ∧ f = 56 ∧ K.k (.z (ixZ isEmp (m.take len))) om
  | _, _, _ => False
theorem c_slices_IndexFunc_span_Span_span_Span_mono : Mono c_slices_IndexFunc_span_Span_span_Span := by
  intro args om K K' hK h
  unfold c_slices_IndexFunc_span_Span_span_Span at h ⊢
  split at h
  · exact mono_so (fun x h => h.imp (fun h => ⟨h.1, hK _ _ h.2⟩) fun h => ⟨h.1, hK _ _ h.2⟩) h
  · obtain ⟨m, h1, h2, h3, h4, h5⟩ := h
    exact ⟨m, h1, h2, h3, h4, hK _ _ h5⟩
  · exact h.elim
theorem quiet_slices_IndexFunc_span_Span_span_Span : Quiet c_slices_IndexFunc_span_Span_span_Span := by
  intro args om K h
  unfold c_slices_IndexFunc_span_Span_span_Span at h ⊢
  split at h
  · exact mono_so (fun x h => h.imp (fun h => ⟨h.1, .refl _, h.2⟩) fun h => ⟨h.1, .refl _, h.2⟩) h
  · obtain ⟨m, h1, h2, h3, h4, h5⟩ := h
    exact ⟨m, h1, h2, h3, h4, .refl _, h5⟩
  · exact h.elim
noncomputable def cx_slices_IndexFunc_span_Span_span_Span : Cx := { T := T, E := E, cs := [(42, c_span_Apart_1), (56, c_span_sorted_1)], sch := [], ob := [], qs := [42, 56] }
@[go_sem] theorem cx_slices_IndexFunc_span_Span_span_Span_e : cx_slices_IndexFunc_span_Span_span_Span.gs = none ∧ cx_slices_IndexFunc_span_Span_span_Span.md = 0 ∧ cx_slices_IndexFunc_span_Span_span_Span.T = T ∧ cx_slices_IndexFunc_span_Span_span_Span.E = E ∧ cx_slices_IndexFunc_span_Span_span_Span.cs = [(42, c_span_Apart_1), (56, c_span_sorted_1)] ∧ ∀ d, (cx_slices_IndexFunc_span_Span_span_Span.ob).contains d = false := ⟨rfl, rfl, rfl, rfl, rfl, fun _ => rfl⟩
theorem cok_slices_IndexFunc_span_Span_span_Span : COk Try.prog (cx_slices_IndexFunc_span_Span_span_Span) := cok_of rfl (.cons ok_span_Apart_1 (.cons ok_span_sorted_1 (.nil))) (.cons (fun _ => fn1_quiet) (.cons (fun _ => fn1_quiet) (.nil))) (.nil)
theorem ok_slices_IndexFunc_span_Span_span_Span : Ok Try.prog 53 c_slices_IndexFunc_span_Span_span_Span := by
  refine ok_of_body1 cok_slices_IndexFunc_span_Span_span_Span mixed Try.func53 rfl (by kernel_rfl) (by kernel_rfl) c_slices_IndexFunc_span_Span_span_Span_mono fun args om Q hw h => ?_
  unfold c_slices_IndexFunc_span_Span_span_Span at h
  split at h <;> first | exact h.elim | skip
  · rename_i om _ _ _ vs f
    replace h := so_inv h; obtain ⟨l, hl, h⟩ := h
    obtain rfl := els_decs t2 _ _ hl
    rw [show els t2.enc l = els v2 l from rfl] at hw ⊢
    have hb := (wf_e2 hw).1
    rw [longest_eq] at hb
    rcases h with ⟨rfl, h⟩ | ⟨rfl, h⟩
    · simp only [go_sem, Try.f53, kn1, kn2, kn3, kn4, kn5, kn6, kn7, kn8, kn9, kz1, kz2, kz3, kz4, kz5, kz6, kz7, kz8, kz9, kz0, reduceCtorEq, String.reduceEq, kn0, kq1, kq2, kq3, kq4, Int.toNat_natCast]
      refine ⟨Nat, fun k => ⟨[.sl (els v2 l), .fn (.func 42) [] [], .u, .u, .z 0, .u, .u, .z l.length, .z k, .u, .u, .u, .u, .u, .u, .u, .u, .u, .u], [], om⟩, fun k => k ≤ l.length ∧ ∀ j, j < k → isBad (l.getD j z2) = false, fun k => l.length - k, ⟨0, ⟨Nat.zero_le _, fun j hj => absurd hj (Nat.not_lt_zero j)⟩, ?_⟩, ?_⟩
      · simp only [go_sem, kn1, kn2, kn3, kn4, kn5, kn6, kn7, kn8, kn9, kz1, kz2, kz3, kz4, kz5, kz6, kz7, kz8, kz9, kz0, reduceCtorEq, String.reduceEq, kn0, kq1, kq2, kq3, kq4, Int.toNat_natCast]
      · rintro k ⟨hk, hp⟩
        simp only [go_sem, kn1, kn2, kn3, kn4, kn5, kn6, kn7, kn8, kn9, kz1, kz2, kz3, kz4, kz5, kz6, kz7, kz8, kz9, kz0, reduceCtorEq, String.reduceEq, kn0, kq1, kq2, kq3, kq4, Int.toNat_natCast, e2_get]
        refine ⟨fun g => ⟨by omega, fun q => ⟨by omega, k + 1, ⟨by omega, fun j hj => ?_⟩, by omega, by omega⟩, fun q => ?_⟩, fun g => ?_⟩
        · by_cases e : j = k
          · subst e; simpa [isBad] using q
          · exact hp j (by omega)
        · have := ixf_eq (p := isBad) hk hp fun _ => by simpa [isBad] using q
          rw [show ixZ isBad l = (k : Int) by unfold ixZ; rw [this, if_pos (by omega)]] at h
          exact h
        · have := ixf_eq (p := isBad) hk hp fun g' => absurd g' (by omega)
          rw [show ixZ isBad l = -1 by unfold ixZ; rw [this, if_neg (by omega)]] at h
          exact h
    · simp only [go_sem, Try.f53, kn1, kn2, kn3, kn4, kn5, kn6, kn7, kn8, kn9, kz1, kz2, kz3, kz4, kz5, kz6, kz7, kz8, kz9, kz0, reduceCtorEq, String.reduceEq, kn0, kq1, kq2, kq3, kq4, Int.toNat_natCast]
      refine ⟨Nat, fun k => ⟨[.sl (els v2 l), .fn (.func 56) [] [], .u, .u, .z 0, .u, .u, .z l.length, .z k, .u, .u, .u, .u, .u, .u, .u, .u, .u, .u], [], om⟩, fun k => k ≤ l.length ∧ ∀ j, j < k → isEmp (l.getD j z2) = false, fun k => l.length - k, ⟨0, ⟨Nat.zero_le _, fun j hj => absurd hj (Nat.not_lt_zero j)⟩, ?_⟩, ?_⟩
      · simp only [go_sem, kn1, kn2, kn3, kn4, kn5, kn6, kn7, kn8, kn9, kz1, kz2, kz3, kz4, kz5, kz6, kz7, kz8, kz9, kz0, reduceCtorEq, String.reduceEq, kn0, kq1, kq2, kq3, kq4, Int.toNat_natCast]
      · rintro k ⟨hk, hp⟩
        simp only [go_sem, kn1, kn2, kn3, kn4, kn5, kn6, kn7, kn8, kn9, kz1, kz2, kz3, kz4, kz5, kz6, kz7, kz8, kz9, kz0, reduceCtorEq, String.reduceEq, kn0, kq1, kq2, kq3, kq4, Int.toNat_natCast, e2_get]
        refine ⟨fun g => ⟨by omega, fun q => ?_, fun q => ⟨by omega, k + 1, ⟨by omega, fun j hj => ?_⟩, by omega, by omega⟩⟩, fun g => ?_⟩
        · have := ixf_eq (p := isEmp) hk hp fun _ => by simpa [isEmp] using q
          rw [show ixZ isEmp l = (k : Int) by unfold ixZ; rw [this, if_pos (by omega)]] at h
          exact h
        · by_cases e : j = k
          · subst e; simpa [isEmp] using q
          · exact hp j (by omega)
        · have := ixf_eq (p := isEmp) hk hp fun g' => absurd g' (by omega)
          rw [show ixZ isEmp l = -1 by unfold ixZ; rw [this, if_neg (by omega)]] at h
          exact h
  · rename_i om _ _ _ id off len cap f
    obtain ⟨m, ⟨h1, h1'⟩, rfl, h2, rfl, h⟩ := h
    have hb : len ≤ cap ∧ cap ≤ longest := hw.1
    rw [longest_eq] at hb
    simp only [go_sem, Try.f53, kn1, kn2, kn3, kn4, kn5, kn6, kn7, kn8, kn9, kz1, kz2, kz3, kz4, kz5, kz6, kz7, kz8, kz9, kz0, reduceCtorEq, String.reduceEq, kn0, kq1, kq2, kq3, kq4, Int.toNat_natCast]
    refine ⟨Nat, fun k => ⟨[.ow id 0 len cap, .fn (.func 56) [] [], .u, .u, .z 0, .u, .u, .z len, .z k, .u, .u, .u, .u, .u, .u, .u, .u, .u, .u], [], om⟩, fun k => k ≤ len ∧ ∀ j, j < k → isEmp (m.getD j z2) = false, fun k => len - k, ⟨0, ⟨Nat.zero_le _, fun j hj => absurd hj (Nat.not_lt_zero j)⟩, ?_⟩, ?_⟩
    · simp only [go_sem, kn1, kn2, kn3, kn4, kn5, kn6, kn7, kn8, kn9, kz1, kz2, kz3, kz4, kz5, kz6, kz7, kz8, kz9, kz0, reduceCtorEq, String.reduceEq, kn0, kq1, kq2, kq3, kq4, Int.toNat_natCast]
    · rintro k ⟨hk, hp⟩
      have tl : (m.take len).length = len := by simp; omega
      have tg : ∀ j, j < len → (m.take len).getD j z2 = m.getD j z2 := fun j hj => by simp [List.getD_eq_getElem?_getD, List.getElem?_take, hj]
      by_cases g : k < len
      · have g' : ((k : Int) < (len : Int)) = True := eq_true (by omega)
        have f1 := fl_has (l := m) (i := k) (by omega)
        have f2 := fl_get (l := m) (i := k) (by omega)
        simp only [go_sem, kn1, kn2, kn3, kn4, kn5, kn6, kn7, kn8, kn9, kz1, kz2, kz3, kz4, kz5, kz6, kz7, kz8, kz9, kz0, reduceCtorEq, String.reduceEq, kn0, kq1, kq2, kq3, kq4, Int.toNat_natCast, h1, g', f1, f2]
        refine ⟨by omega, fun q => ?_, fun q => ⟨by omega, k + 1, ⟨by omega, fun j hj => ?_⟩, by omega, by omega⟩⟩
        · have := ixf_eq (p := isEmp) (l := m.take len) (k := k) (by omega) (fun j hj => by rw [tg j (by omega)]; exact hp j hj) fun _ => by rw [tg k g]; simpa [isEmp] using q
          rw [show ixZ isEmp (m.take len) = (k : Int) by unfold ixZ; rw [this, if_pos (by omega)]] at h
          exact h
        · by_cases e : j = k
          · subst e; simpa [isEmp] using q
          · exact hp j (by omega)
      · have g' : ((k : Int) < (len : Int)) = False := eq_false (by omega)
        simp only [go_sem, kn1, kn2, kn3, kn4, kn5, kn6, kn7, kn8, kn9, kz1, kz2, kz3, kz4, kz5, kz6, kz7, kz8, kz9, kz0, reduceCtorEq, String.reduceEq, kn0, kq1, kq2, kq3, kq4, Int.toNat_natCast, h1, g']
        have := ixf_eq (p := isEmp) (l := m.take len) (k := k) (by omega) (fun j hj => by rw [tg j (by omega)]; exact hp j hj) fun g' => absurd g' (by omega)
        rw [show ixZ isEmp (m.take len) = -1 by unfold ixZ; rw [this, if_neg (by omega)]] at h
        exact h
noncomputable def c_slices_ContainsFunc_span_Span_span_Span : Cn
  | [.sl vs, .fn (.func f) [] []], om, K => @so _ (decs t2 vs) ⟨fun l => f = 42 ∧ K.k (.b (decide (ixf isBad l < l.length))) om⟩
  | _, _, _ => False
attribute [go_sem] c_slices_ContainsFunc_span_Span_span_Span.eq_1
theorem c_slices_ContainsFunc_span_Span_span_Span_mono : Mono c_slices_ContainsFunc_span_Span_span_Span := by
  intro args om K K' hK h
  unfold c_slices_ContainsFunc_span_Span_span_Span at h ⊢
  split at h
  · exact mono_so (fun x h => ⟨h.1, hK _ _ h.2⟩) h
  · exact h.elim
theorem quiet_slices_ContainsFunc_span_Span_span_Span : Quiet c_slices_ContainsFunc_span_Span_span_Span := by
  intro args om K h
  unfold c_slices_ContainsFunc_span_Span_span_Span at h ⊢
  split at h
  · exact mono_so (fun x h => ⟨h.1, .refl _, h.2⟩) h
  · exact h.elim
noncomputable def cx_slices_ContainsFunc_span_Span_span_Span : Cx := { T := T, E := E, cs := [(53, c_slices_IndexFunc_span_Span_span_Span)], sch := [], ob := [], qs := [53] }
@[go_sem] theorem cx_slices_ContainsFunc_span_Span_span_Span_e : cx_slices_ContainsFunc_span_Span_span_Span.gs = none ∧ cx_slices_ContainsFunc_span_Span_span_Span.md = 0 ∧ cx_slices_ContainsFunc_span_Span_span_Span.T = T ∧ cx_slices_ContainsFunc_span_Span_span_Span.E = E ∧ cx_slices_ContainsFunc_span_Span_span_Span.cs = [(53, c_slices_IndexFunc_span_Span_span_Span)] ∧ ∀ d, (cx_slices_ContainsFunc_span_Span_span_Span.ob).contains d = false := ⟨rfl, rfl, rfl, rfl, rfl, fun _ => rfl⟩
theorem cok_slices_ContainsFunc_span_Span_span_Span : COk Try.prog (cx_slices_ContainsFunc_span_Span_span_Span) := cok_of rfl (.cons ok_slices_IndexFunc_span_Span_span_Span (.nil)) (.cons (fun _ => quiet_slices_IndexFunc_span_Span_span_Span) (.nil)) (.nil)
theorem ok_slices_ContainsFunc_span_Span_span_Span : Ok Try.prog 41 c_slices_ContainsFunc_span_Span_span_Span := by
  refine ok_of_body1 cok_slices_ContainsFunc_span_Span_span_Span mixed Try.func41 rfl (by kernel_rfl) (by kernel_rfl) c_slices_ContainsFunc_span_Span_span_Span_mono fun args om Q hw h => ?_
  unfold c_slices_ContainsFunc_span_Span_span_Span at h
  split at h <;> first | exact h.elim | skip
  rename_i om _ _ _ vs f
  replace h := so_inv h; obtain ⟨l, hl, rfl, h⟩ := h
  obtain rfl := els_decs t2 _ _ hl
  rw [show els t2.enc l = els v2 l from rfl]
  simp only [go_sem, Try.f41, kn1, kn2, kn3, kn4, kn5, kn6, kn7, kn8, kn9, kz1, kz2, kz3, kz4, kz5, kz6, kz7, kz8, kz9, kz0, reduceCtorEq, String.reduceEq, kn0, kq1, kq2, kq3, kq4, Int.toNat_natCast, c_slices_IndexFunc_span_Span_span_Span.eq_1]
  rw [show decide (0 ≤ ixZ isBad l) = decide (ixf isBad l < l.length) from decide_eq_decide.2 (by unfold ixZ; split <;> omega)]
  exact fun _ => h

/-- Those that have places. -/
def full (l : List D2) : List D2 := l.filter fun s => !isEmp s
theorem full_self {l : List D2} (h : ∀ j, j < l.length → isEmp (l.getD j z2) = false) : full l = l := by
  unfold full
  rw [List.filter_eq_self]
  intro x hx
  obtain ⟨j, hj, rfl⟩ := List.getElem_of_mem hx
  have := h j hj
  rw [List.getD_eq_getElem?_getD, List.getElem?_eq_getElem hj] at this
  simpa using this
theorem full_le (l : List D2) : (full l).length ≤ l.length := List.length_filter_le _ _
theorem full_mem {l : List D2} {x : D2} (h : x ∈ full l) : x ∈ l := (List.mem_filter.1 h).1
theorem full_snoc (l : List D2) (x : D2) : full (l ++ [x]) = if isEmp x = true then full l else full l ++ [x] := by
  unfold full
  rw [List.filter_append]
  by_cases h : isEmp x = true
  · simp [h]
  · simp [h]
theorem take_snoc2 {l : List D2} {j : Nat} (h : j < l.length) : l.take (j + 1) = l.take j ++ [l.getD j z2] := by
  rw [List.take_add_one, List.getD_eq_getElem?_getD, List.getElem?_eq_getElem h]; rfl
noncomputable def c_slices_DeleteFunc_span_Span_span_Span : Cn
  | [.sl [], .fn (.func f) [] []], om, K => f = 56 ∧ K.k (.sl []) om
  | [.ow id off len cap, .fn (.func f) [] []], om, K => ∃ l r, InO om id (l ++ r) ∧ off = 0 ∧ len = l.length ∧ (l ++ r).length ≤ cap ∧ f = 56 ∧ ∀ r', (full l ++ r').length = (l ++ r).length → (∀ x ∈ r', x.wf) → K.k (.ow id 0 (full l).length cap) (om.put id (fl (full l ++ r')))
  | _, _, _ => False
theorem c_slices_DeleteFunc_span_Span_span_Span_mono : Mono c_slices_DeleteFunc_span_Span_span_Span := by
  intro args om K K' hK h
  unfold c_slices_DeleteFunc_span_Span_span_Span at h ⊢
  split at h
  · exact ⟨h.1, hK _ _ h.2⟩
  · obtain ⟨l, r, h1, h2, h3, h4, h5, h6⟩ := h
    exact ⟨l, r, h1, h2, h3, h4, h5, fun r' g g' => hK _ _ (h6 r' g g')⟩
  · exact h.elim
noncomputable def cx_slices_DeleteFunc_span_Span_span_Span : Cx := { T := T, E := E, cs := [(53, c_slices_IndexFunc_span_Span_span_Span), (56, c_span_sorted_1)], sch := [], ob := [], qs := [53, 56], md := 2 }
@[go_sem] theorem cx_slices_DeleteFunc_span_Span_span_Span_e : cx_slices_DeleteFunc_span_Span_span_Span.gs = none ∧ cx_slices_DeleteFunc_span_Span_span_Span.md = 2 ∧ cx_slices_DeleteFunc_span_Span_span_Span.T = T ∧ cx_slices_DeleteFunc_span_Span_span_Span.E = E ∧ cx_slices_DeleteFunc_span_Span_span_Span.cs = [(53, c_slices_IndexFunc_span_Span_span_Span), (56, c_span_sorted_1)] ∧ ∀ d, (cx_slices_DeleteFunc_span_Span_span_Span.ob).contains d = false := ⟨rfl, rfl, rfl, rfl, rfl, fun _ => rfl⟩
theorem cok_slices_DeleteFunc_span_Span_span_Span : COk Try.prog (cx_slices_DeleteFunc_span_Span_span_Span) := cok_of rfl (.cons ok_slices_IndexFunc_span_Span_span_Span (.cons ok_span_sorted_1 (.nil))) (.cons (fun _ => quiet_slices_IndexFunc_span_Span_span_Span) (.cons (fun _ => fn1_quiet) (.nil))) (.nil)
theorem ok_slices_DeleteFunc_span_Span_span_Span : Ok Try.prog 54 c_slices_DeleteFunc_span_Span_span_Span := by
  refine ok_of_body1 cok_slices_DeleteFunc_span_Span_span_Span mixed Try.func54 rfl (by kernel_rfl) (by kernel_rfl) c_slices_DeleteFunc_span_Span_span_Span_mono fun args om Q hw h => ?_
  unfold c_slices_DeleteFunc_span_Span_span_Span at h
  split at h <;> first | exact h.elim | skip
  · obtain ⟨rfl, h⟩ := h
    have e : ixZ isEmp [] = -1 := by unfold ixZ; rw [if_neg (by simp)]
    simp only [go_sem, Try.f54, kn1, kn2, kn3, kn4, kn5, kn6, kn7, kn8, kn9, kz1, kz2, kz3, kz4, kz5, kz6, kz7, kz8, kz9, kz0, reduceCtorEq, String.reduceEq, kn0, kq1, kq2, kq3, kq4, Int.toNat_natCast, c_slices_IndexFunc_span_Span_span_Span.eq_1, e]
    exact h
  · rename_i om _ _ _ id off len cap f
    obtain ⟨l, r, ⟨h1, h1'⟩, rfl, rfl, h2, rfl, h⟩ := h
    have hb : l.length ≤ cap ∧ cap ≤ longest := hw.1
    rw [longest_eq] at hb
    simp only [go_sem, Try.f54, kn1, kn2, kn3, kn4, kn5, kn6, kn7, kn8, kn9, kz1, kz2, kz3, kz4, kz5, kz6, kz7, kz8, kz9, kz0, reduceCtorEq, String.reduceEq, kn0, kq1, kq2, kq3, kq4, Int.toNat_natCast, c_slices_IndexFunc_span_Span_span_Span.eq_2]
    refine ⟨l ++ r, ⟨h1, h1'⟩, by simp, ?_⟩
    rw [List.take_left]
    have hle := ixf_le isEmp l
    refine fun _ => ⟨fun e => ?_, fun e => ⟨?_, ?_⟩⟩
    · have e1 : full l = l := full_self fun j hj => ixf_before (by unfold ixZ at e; split at e <;> omega)
      have := h r (by rw [e1]) fun x hx => h1' x (List.mem_append_right _ hx)
      rw [e1, om_put_self h1] at this
      exact this
    · unfold ixZ; split <;> omega
    have hi : ixf isEmp l < l.length := by unfold ixZ at e; split at e <;> omega
    have ei : ixZ isEmp l = (ixf isEmp l : Int) := by unfold ixZ; rw [if_pos hi]
    have e1 : full (l.take (ixf isEmp l)) = l.take (ixf isEmp l) := full_self fun j hj => by
      have hj' : j < ixf isEmp l := by simp at hj; omega
      rw [show (l.take (ixf isEmp l)).getD j z2 = l.getD j z2 by simp [List.getD_eq_getElem?_getD, List.getElem?_take, hj']]
      exact ixf_before hj'
    have e2 : full (l.take (ixf isEmp l + 1)) = l.take (ixf isEmp l) := by rw [take_snoc2 hi, full_snoc, if_pos (ixf_at hi), e1]
    have hlen : (l ++ r).length = l.length + r.length := List.length_append
    refine ⟨Nat × List D2, fun q => ⟨[.ow id 0 l.length cap, .fn (.func 56) [] [], .u, .u, .nils, .z (full (l.take q.1)).length, .z q.1, .u, .u, .u, .u, .u, .u, .u, .u, .u, .u, .u, .u, .u, .u, .u, .u, .u, .u, .u, .u, .u, .u, .u, .u, .u, .u, .u, .u, .u, .u, .u, .u, .u, .u, .u], [], om.put id (fl q.2)⟩,
      fun q => q.1 ≤ l.length ∧ (full (l.take q.1)).length < q.1 ∧ q.2.length = (l ++ r).length ∧ (∀ x ∈ q.2, x.wf) ∧ (∀ p, q.1 ≤ p → q.2.getD p z2 = (l ++ r).getD p z2) ∧ q.2.take (full (l.take q.1)).length = full (l.take q.1), fun q => l.length - q.1, ⟨(ixf isEmp l + 1, l ++ r), ⟨by show ixf isEmp l + 1 ≤ _; omega, ?_, rfl, h1', fun _ _ => rfl, ?_⟩, ?_⟩, ?_⟩
    · show (full (l.take (ixf isEmp l + 1))).length < ixf isEmp l + 1
      rw [e2]; simp; omega
    · show (l ++ r).take (full (l.take (ixf isEmp l + 1))).length = full (l.take (ixf isEmp l + 1))
      rw [e2, List.length_take, Nat.min_eq_left hle, List.take_append_of_le_length hle]
    · simp only [go_sem, kn1, kn2, kn3, kn4, kn5, kn6, kn7, kn8, kn9, kz1, kz2, kz3, kz4, kz5, kz6, kz7, kz8, kz9, kz0, reduceCtorEq, String.reduceEq, kn0, kq1, kq2, kq3, kq4, Int.toNat_natCast, e2, ei]
      refine ⟨⟨by simp; omega, by omega⟩, ?_⟩
      rw [om_put_self h1]; exact .refl _
    · rintro ⟨j, m⟩ ⟨g1, g2, g3, g4, g5, g6⟩
      simp only at g1 g2 g3 g4 g5 g6
      obtain ⟨F, hF⟩ : ∃ F, full (l.take j) = F := ⟨_, rfl⟩
      rw [hF] at g2 g6
      by_cases c : j < l.length
      · have c' : ((j : Int) < (l.length : Int)) = True := eq_true (by omega)
        have f1 := fl_has (l := m) (i := j) (by omega)
        have f2 := fl_get (l := m) (i := j) (by omega)
        have f3 := fl_has (l := m) (i := F.length) (by omega)
        have f4 := fl_set (l := m) (i := F.length) (by omega) (m.getD j z2)
        have lj : l.getD j z2 = m.getD j z2 := by rw [g5 j (Nat.le_refl _)]; simp [List.getD_eq_getElem?_getD, List.getElem?_append, c]
        have sn := take_snoc2 c
        simp only [go_sem, kn1, kn2, kn3, kn4, kn5, kn6, kn7, kn8, kn9, kz1, kz2, kz3, kz4, kz5, kz6, kz7, kz8, kz9, kz0, reduceCtorEq, String.reduceEq, kn0, kq1, kq2, kq3, kq4, Int.toNat_natCast, c', f1, f2, f3, f4, hF]
        refine ⟨by omega, fun q => ⟨by omega, (j + 1, m), ⟨by show j + 1 ≤ _; omega, ?_, g3, g4, fun p hp => g5 p (by have : j + 1 ≤ p := hp; omega), ?_⟩, ⟨⟨?_, by show _ = ((j + 1 : Nat) : Int); omega⟩, .refl _⟩, by show l.length - (j + 1) < _; omega⟩, fun q => ⟨by omega, by omega, by omega, (j + 1, m.set F.length (m.getD j z2)), ⟨by show j + 1 ≤ _; omega, ?_, by show (m.set _ _).length = _; rw [List.length_set]; exact g3, ?_, ?_, ?_⟩, ⟨⟨?_, by show _ = ((j + 1 : Nat) : Int); omega⟩, .refl _⟩, by show l.length - (j + 1) < _; omega⟩⟩
        · show (full (l.take (j + 1))).length < j + 1
          rw [sn, full_snoc, lj, if_pos (by simpa [isEmp] using q), hF]; omega
        · show m.take (full (l.take (j + 1))).length = full (l.take (j + 1))
          rw [sn, full_snoc, lj, if_pos (by simpa [isEmp] using q), hF]; exact g6
        · show _ = ((full (l.take (j + 1))).length : Int)
          rw [sn, full_snoc, lj, if_pos (by simpa [isEmp] using q), hF]
        · show (full (l.take (j + 1))).length < j + 1
          rw [sn, full_snoc, lj, if_neg (by simpa [isEmp] using q), hF, List.length_append]; simp; omega
        · intro x hx
          rcases List.mem_or_eq_of_mem_set hx with hx | rfl
          · exact g4 x hx
          · exact wf_fl g4 j
        · intro p hp
          have hp' : j + 1 ≤ p := hp
          show (m.set F.length (m.getD j z2)).getD p z2 = _
          rw [← g5 p (by omega), List.getD_eq_getElem?_getD, List.getElem?_set, if_neg (by omega), ← List.getD_eq_getElem?_getD]
        · show (m.set F.length (m.getD j z2)).take (full (l.take (j + 1))).length = full (l.take (j + 1))
          rw [sn, full_snoc, lj, if_neg (by simpa [isEmp] using q), hF, List.length_append, List.length_singleton, take_snoc2 (by rw [List.length_set]; omega), List.take_set_of_le (Nat.le_refl _), g6]
          congr 1
          simp [List.getD_eq_getElem?_getD, show F.length < m.length by omega]
        · show _ = ((full (l.take (j + 1))).length : Int)
          rw [sn, full_snoc, lj, if_neg (by simpa [isEmp] using q), hF, List.length_append]; simp
      · have c' : ((j : Int) < (l.length : Int)) = False := eq_false (by omega)
        have ej : j = l.length := by omega
        subst ej
        rw [List.take_length] at hF
        subst hF
        have en : ((l.length : Int) - ((full l).length : Int)).toNat = l.length - (full l).length := by omega
        have ez : (((full l).length : Int) - 0).toNat = (full l).length := by omega
        have fs := fl_splice (l := m) (i := (full l).length) (List.replicate (l.length - (full l).length) z2)
        simp only [go_sem, kn1, kn2, kn3, kn4, kn5, kn6, kn7, kn8, kn9, kz1, kz2, kz3, kz4, kz5, kz6, kz7, kz8, kz9, kz0, reduceCtorEq, String.reduceEq, kn0, kq1, kq2, kq3, kq4, Int.toNat_natCast, c', List.take_length, en, ez, fs]
        refine ⟨by omega, ⟨by simp, by simp; omega⟩, by omega, ?_⟩
        rw [g6, Nat.sub_zero, List.append_assoc]
        refine h _ ?_ ?_
        · simp; omega
        · intro x hx
          rcases List.mem_append.1 hx with hx | hx
          · rw [List.eq_of_mem_replicate hx]; exact ⟨by show 0 < _; omega, by show 0 < _; omega⟩
          · exact g4 x (List.mem_of_mem_drop hx)
end Go.Proofs.Ytlcnohmnemmbdaa.I
