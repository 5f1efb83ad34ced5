/- Rows of pairs of long numbers (spans), in lists and in objects. -/
import Derived.Test.YtlcnohmnemmbdaaG4
import Derived.Test.YtlcnohmnemmbdaaM3
import Derived.Test.YtlcnohmnemmbdaaSpan1
namespace Go.Proofs.Ytlcnohmnemmbdaa.I
open Go
set_option linter.unusedSimpArgs false
set_option linter.unusedVariables false

@[go_sem] theorem e2_uni (l : List D2) : uni 4 true (els v2 l) = true := by simp [uni, els, v2, V.fits]
@[go_sem] theorem e2_all (l : List D2) : (els v2 l).all (V.fits 4 true) = true := e2_uni l
@[go_sem] theorem e2_clean (l : List D2) : cleans (els v2 l) = true := by
  rw [cleans_iff]; intro x hx
  obtain ⟨n, _, rfl⟩ := List.mem_map.1 hx; rfl
@[go_sem] theorem e2_within (hs : List Nat) (l : List D2) : withins hs (els v2 l) = true := by
  rw [withins_iff]; intro x hx
  obtain ⟨n, _, rfl⟩ := List.mem_map.1 hx; rfl
@[go_sem] theorem e2_inj (l m : List D2) : (els v2 l = els v2 m) = (l = m) := by
  apply propext
  unfold els
  constructor
  · intro h
    refine (List.map_inj_right fun a b h => ?_).mp h
    have e1 := t2.h1 a
    rw [show t2.enc a = t2.enc b from h, t2.h1] at e1
    injection e1 with e1
    exact e1.symm
  · rintro rfl; rfl
@[go_sem] theorem tL2_enc (l : List D2) : (tL t2).enc l = .sl (els v2 l) := rfl
@[go_sem] theorem decs_2 (l : List D2) : decs t2 (els v2 l) = some l := decs_els _ _
theorem z2_v : v2 z2 = .agg [.n .u64 0, .n .u64 0, .n .u64 0, .n .u64 0] := rfl
@[go_sem] theorem e2_rep (n : Nat) : List.replicate n (V.agg [.n .u64 0, .n .u64 0, .n .u64 0, .n .u64 0]) = els v2 (List.replicate n z2) := els_replicate v2 n z2
theorem e2_get (l : List D2) (i : Nat) : (els v2 l).getD i (.agg [.n .u64 0, .n .u64 0, .n .u64 0, .n .u64 0]) = v2 (l.getD i z2) := els_getD v2 l i z2
theorem e2_one (x : D2) : [V.agg [.n .u64 (x.a / 18446744073709551616), .n .u64 (x.a % 18446744073709551616), .n .u64 (x.b / 18446744073709551616), .n .u64 (x.b % 18446744073709551616)]] = els v2 [x] := rfl
/-- The cells of spans. -/
def fl (l : List D2) : List V := flat (els v2 l)
@[go_sem] theorem flat_e2 (l : List D2) : flat (els v2 l) = fl l := rfl
theorem fl_nil : fl [] = [] := rfl
theorem fl_cons (x : D2) (l : List D2) : fl (x :: l) = [.n .u64 (x.a / 18446744073709551616), .n .u64 (x.a % 18446744073709551616), .n .u64 (x.b / 18446744073709551616), .n .u64 (x.b % 18446744073709551616)] ++ fl l := rfl
@[go_sem] theorem fl_len (l : List D2) : (fl l).length = l.length * 4 := by
  induction l with
  | nil => rfl
  | cons x l ih => rw [fl_cons, List.length_append, ih]; simp only [List.length_cons, List.length_nil]; omega
theorem fl_append (l m : List D2) : fl (l ++ m) = fl l ++ fl m := by simp [fl, els, flat]
theorem fl_drop (l : List D2) : ∀ i, (fl l).drop (i * 4) = fl (l.drop i) := by
  induction l with
  | nil => intro i; simp [fl_nil]
  | cons x l ih =>
    intro i
    cases i with
    | zero => rfl
    | succ i => rw [List.drop_succ_cons, ← ih i, fl_cons, show (i + 1) * 4 = 4 + i * 4 by omega, ← List.drop_drop]; rfl
theorem fl_take (l : List D2) (i : Nat) : (fl l).take (i * 4) = fl (l.take i) := by
  induction l generalizing i with
  | nil => simp [fl_nil]
  | cons x l ih =>
    cases i with
    | zero => rfl
    | succ i => rw [List.take_succ_cons, fl_cons, fl_cons, ← ih i, show (i + 1) * 4 = 4 + i * 4 by omega, List.take_append, List.take_of_length_le (by simp)]; congr 2; simp
theorem fl_has {l : List D2} {i : Nat} (h : i < l.length) : hasN (i * 4) 4 (fl l) = true := by
  rw [hasN_iff, fl_len]; omega
theorem fl_get {l : List D2} {i : Nat} (h : i < l.length) : ((fl l).drop (i * 4)).take 4 = [.n .u64 ((l.getD i z2).a / 18446744073709551616), .n .u64 ((l.getD i z2).a % 18446744073709551616), .n .u64 ((l.getD i z2).b / 18446744073709551616), .n .u64 ((l.getD i z2).b % 18446744073709551616)] := by
  rw [fl_drop, List.drop_eq_getElem_cons h, fl_cons, List.getD_eq_getElem?_getD, List.getElem?_eq_getElem h]; rfl
theorem fl_set {l : List D2} {i : Nat} (h : i < l.length) (x : D2) : (fl l).take (i * 4) ++ [.n .u64 (x.a / 18446744073709551616), .n .u64 (x.a % 18446744073709551616), .n .u64 (x.b / 18446744073709551616), .n .u64 (x.b % 18446744073709551616)] ++ (fl l).drop (i * 4 + 4) = fl (l.set i x) := by
  rw [List.set_eq_take_append_cons_drop, if_pos h, show i * 4 + 4 = (i + 1) * 4 by omega, fl_take, fl_drop, fl_append, fl_cons, List.append_assoc]
theorem fl_splice {l : List D2} {i : Nat} (m : List D2) : (fl l).take (i * 4) ++ fl m ++ (fl l).drop (i * 4 + m.length * 4) = fl (l.take i ++ m ++ l.drop (i + m.length)) := by
  rw [← Nat.add_mul, fl_take, fl_drop, fl_append, fl_append]
@[go_sem] theorem fl_clean (l : List D2) : cleans (fl l) = true := by
  rw [cleans_iff]; intro x hx
  obtain ⟨n, hn, hx⟩ := List.mem_flatMap.1 hx
  obtain ⟨y, _, rfl⟩ := List.mem_map.1 hn
  simp only [v2, V.cells, List.mem_cons, List.not_mem_nil, or_false] at hx
  rcases hx with rfl | rfl | rfl | rfl <;> rfl
theorem om_put_self {om : Om} {id : Nat} {cs : List V} (h : om id = some cs) : om.put id cs = om := by
  funext k; simp only [Om.put]; split
  · rename_i e; rw [e, h]
  · rfl
theorem wf_fl {l : List D2} (h : ∀ x ∈ l, x.wf) (i : Nat) : (l.getD i z2).wf := by
  rw [List.getD_eq_getElem?_getD]
  cases e : l[i]? with
  | none => exact ⟨by show 0 < _; omega, by show 0 < _; omega⟩
  | some x => exact h x (List.mem_of_getElem? e)
theorem wf_e2 {l : List D2} {vs : List V} (h : wfs (.sl (els v2 l) :: vs)) : l.length ≤ longest ∧ ∀ x ∈ l, x.wf := by
  obtain ⟨⟨h1, h2⟩, _⟩ := h
  rw [els_len] at h1
  refine ⟨h1, fun x hx => ?_⟩
  have := (wfs_iff _).1 h2 (v2 x) (List.mem_map.2 ⟨x, hx, rfl⟩)
  exact wf_2 (s := x) (vs := []) ⟨this, trivial⟩

end Go.Proofs.Ytlcnohmnemmbdaa.I
