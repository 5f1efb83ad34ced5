/- cursor: what one holds; Kind, Seed, Place, left, Buffered, State. -/
import Derived.Test.YteomkgcepiecjaaGreatZSeed2
import Derived.Test.YteomkgcepiecjaaGreatZGenM
import Derived.Test.YteomkgcepiecjaaGreatZOb
namespace Go.Proofs.YteomkgcepiecjaaGreat.I
open Go
open Nat renaming reduceEqDiff → kn1, reduceBEq → kn2, reducePow → kn3, reduceMod → kn4, reduceAdd → kn5, reduceSub → kn6, reduceMul → kn7, reduceDiv → kn8, reduceLeDiff → kn9, reduceLT → kn0, zero_lt_one → kq1, zero_add → kq2, zero_le → kq3, le_refl → kq4
open Int renaming reduceToNat → kz1, reduceAdd → kz2, reduceSub → kz3, reduceMul → kz4, reduceDiv → kz5, reduceMod → kz6, reduceLE → kz7, reduceLT → kz8, reduceNeg → kz9, reduceEq → kz0
set_option maxRecDepth 10000
set_option linter.unusedSimpArgs false
set_option linter.unusedVariables false
theorem tW_decm {n : Nat} (h : n % 18446744073709551616 = n) : tW.dec (.agg [.n .u64 (n / 18446744073709551616), .n .u64 n]) = some n := by
  have e := tW.h1 n
  rw [show tW.enc n = V.agg [.n .u64 (n / 18446744073709551616), .n .u64 (n % 18446744073709551616)] from rfl, h] at e
  exact e
structure Cu where
  k : Int
  n : Nat
  p : Nat
  m : Nat
structure B8 where
  a : Nat
  b : Nat
  c : Nat
  d : Nat
  e : Nat
  f : Nat
  g : Nat
  h : Nat
def B8.l (x : B8) : List Nat := [x.a, x.b, x.c, x.d, x.e, x.f, x.g, x.h]
def B8.of (w : List Nat) : B8 := ⟨w.getD 0 0, w.getD 1 0, w.getD 2 0, w.getD 3 0, w.getD 4 0, w.getD 5 0, w.getD 6 0, w.getD 7 0⟩
theorem B8.l_of : ∀ {w : List Nat}, w.length = 8 → (B8.of w).l = w
  | [_, _, _, _, _, _, _, _], _ => rfl
def cuC (k : Int) (n p : Nat) (x : B8) (v : V) (A : GS) : List V := [.z k, .n .u64 n, .n .u64 (p / 18446744073709551616), .n .u64 (p % 18446744073709551616), .n .u64 x.a, .n .u64 x.b, .n .u64 x.c, .n .u64 x.d, .n .u64 x.e, .n .u64 x.f, .n .u64 x.g, .n .u64 x.h, v,
  .z A.kind, .n .u64 A.mix, .n .u64 A.x.a, .n .u64 A.x.b, .n .u64 A.x.c, .n .u64 A.x.d, .n .u64 (A.p.a / 18446744073709551616), .n .u64 (A.p.a % 18446744073709551616), .n .u64 (A.p.b / 18446744073709551616), .n .u64 (A.p.b % 18446744073709551616), .n .u64 (A.f.c / 18446744073709551616), .n .u64 (A.f.c % 18446744073709551616), .n .u32 A.f.k.a, .n .u32 A.f.k.b, .b A.f.h]
def wAt (k : Int) (n p : Nat) : Nat := gword (gjump (snew k n) p)
def Cu.ok (c : Cu) : Prop := (1 ≤ c.k ∧ c.k ≤ 4) ∧ c.n < 18446744073709551616 ∧ c.m ≤ 8 ∧ c.p + c.m ≤ glim c.k
def bufOk (id : Nat) (c : Cu) (x : B8) (v : V) : Prop := (c.m = 0 ∧ v = .sl []) ∨ ∃ lo, v = .arr (.obj id (4 + lo)) c.m ∧ lo + c.m ≤ 8 ∧ ∀ i, i < c.m → x.l.getD (lo + i) 0 = wAt c.k c.n (c.p + i)
def CuP (id : Nat) (c : Cu) (cs : List V) : Prop := ∃ x v, cs = cuC c.k c.n c.p x v (gjump (snew c.k c.n) (c.p + c.m)) ∧ c.ok ∧ bufOk id c x v
open Classical in
noncomputable def cuOf : Obj Cu := fun id cs => if h : ∃ c, CuP id c cs then some h.choose else none
theorem CuP.one {id : Nat} {c d : Cu} {cs : List V} (h : CuP id c cs) (g : CuP id d cs) : c = d := by
  obtain ⟨x, v, rfl, _, h⟩ := h
  obtain ⟨y, w, e, _, g⟩ := g
  obtain ⟨k, n, p, m⟩ := c
  obtain ⟨k', n', p', m'⟩ := d
  unfold cuC at e
  simp only [List.cons.injEq, V.z.injEq, V.n.injEq, true_and] at e
  obtain ⟨rfl, rfl, e1, e2, _, _, _, _, _, _, _, _, rfl, _⟩ := e
  obtain rfl : p = p' := by omega
  rcases h with ⟨h1, h2⟩ | ⟨lo, h1, h2⟩ <;> rcases g with ⟨g1, g2⟩ | ⟨lo', g1, g2⟩
  · simp only at h1 g1; rw [h1, g1]
  · rw [h2] at g1; cases g1
  · rw [h1] at g2; cases g2
  · rw [h1] at g1; simp only [V.arr.injEq] at g1; rw [g1.2]
theorem cuOf_iff {id : Nat} {c : Cu} {cs : List V} : cuOf id cs = some c ↔ CuP id c cs := by
  unfold cuOf
  constructor
  · intro h
    split at h
    · rename_i e; injection h with h; rw [← h]; exact e.choose_spec
    · cases h
  · intro h
    have e : ∃ c, CuP id c cs := ⟨c, h⟩
    rw [dif_pos e, CuP.one e.choose_spec h]
theorem cuOf_inv {id : Nat} {c : Cu} {cs : List V} (h : cuOf id cs = some c) : ∃ x v, cs = cuC c.k c.n c.p x v (gjump (snew c.k c.n) (c.p + c.m)) ∧ c.ok ∧ bufOk id c x v := cuOf_iff.1 h
@[go_sem] noncomputable def c_cursor_Cursor_Kind : Cn := om0 cuOf (fun _ => True) fun c => .z c.k
noncomputable def cx_cursor_Cursor_Kind : Cx := { T := T, E := E, cs := [], sch := [], ob := [], qs := [] }
@[go_sem] theorem cx_cursor_Cursor_Kind_e : cx_cursor_Cursor_Kind.gs = none ∧ cx_cursor_Cursor_Kind.md = 0 ∧ cx_cursor_Cursor_Kind.T = T ∧ cx_cursor_Cursor_Kind.E = E ∧ cx_cursor_Cursor_Kind.cs = [] ∧ ∀ d, (cx_cursor_Cursor_Kind.ob).contains d = false := ⟨rfl, rfl, rfl, rfl, rfl, fun _ => rfl⟩
theorem cok_cursor_Cursor_Kind : COk Tryz.prog (cx_cursor_Cursor_Kind) := cok_of rfl (.nil) (.nil) (.nil)
theorem ok_cursor_Cursor_Kind : Ok Tryz.prog 31 c_cursor_Cursor_Kind := by
  refine ok_om0 cok_cursor_Cursor_Kind mixed Tryz.func31 rfl (by kernel_rfl) (by kernel_rfl) rfl ?_
  intro c id om cs h1 h2 _
  obtain ⟨x, v, rfl, hc, hb⟩ := cuOf_inv h2
  unfold cuC at h1
  simp only [go_sem, Tryz.f31, kn1, kn2, kn3, kn4, kn5, kn6, kn7, kn8, kn9, kz1, kz2, kz3, kz4, kz5, kz6, kz7, kz8, kz9, kz0, reduceCtorEq, String.reduceEq, kn0, kq1, kq2, kq3, kq4, Int.toNat_natCast, h1]
@[go_sem] noncomputable def c_cursor_Cursor_Seed : Cn := om0 cuOf (fun _ => True) fun c => .n .u64 c.n
noncomputable def cx_cursor_Cursor_Seed : Cx := { T := T, E := E, cs := [], sch := [], ob := [], qs := [] }
@[go_sem] theorem cx_cursor_Cursor_Seed_e : cx_cursor_Cursor_Seed.gs = none ∧ cx_cursor_Cursor_Seed.md = 0 ∧ cx_cursor_Cursor_Seed.T = T ∧ cx_cursor_Cursor_Seed.E = E ∧ cx_cursor_Cursor_Seed.cs = [] ∧ ∀ d, (cx_cursor_Cursor_Seed.ob).contains d = false := ⟨rfl, rfl, rfl, rfl, rfl, fun _ => rfl⟩
theorem cok_cursor_Cursor_Seed : COk Tryz.prog (cx_cursor_Cursor_Seed) := cok_of rfl (.nil) (.nil) (.nil)
theorem ok_cursor_Cursor_Seed : Ok Tryz.prog 32 c_cursor_Cursor_Seed := by
  refine ok_om0 cok_cursor_Cursor_Seed mixed Tryz.func32 rfl (by kernel_rfl) (by kernel_rfl) rfl ?_
  intro c id om cs h1 h2 _
  obtain ⟨x, v, rfl, hc, hb⟩ := cuOf_inv h2
  unfold cuC at h1
  simp only [go_sem, Tryz.f32, kn1, kn2, kn3, kn4, kn5, kn6, kn7, kn8, kn9, kz1, kz2, kz3, kz4, kz5, kz6, kz7, kz8, kz9, kz0, reduceCtorEq, String.reduceEq, kn0, kq1, kq2, kq3, kq4, Int.toNat_natCast, h1]
@[go_sem] noncomputable def c_cursor_Cursor_Place : Cn := om0 cuOf (fun _ => True) fun c => vW c.p
noncomputable def cx_cursor_Cursor_Place : Cx := { T := T, E := E, cs := [], sch := [], ob := [], qs := [] }
@[go_sem] theorem cx_cursor_Cursor_Place_e : cx_cursor_Cursor_Place.gs = none ∧ cx_cursor_Cursor_Place.md = 0 ∧ cx_cursor_Cursor_Place.T = T ∧ cx_cursor_Cursor_Place.E = E ∧ cx_cursor_Cursor_Place.cs = [] ∧ ∀ d, (cx_cursor_Cursor_Place.ob).contains d = false := ⟨rfl, rfl, rfl, rfl, rfl, fun _ => rfl⟩
theorem cok_cursor_Cursor_Place : COk Tryz.prog (cx_cursor_Cursor_Place) := cok_of rfl (.nil) (.nil) (.nil)
theorem ok_cursor_Cursor_Place : Ok Tryz.prog 27 c_cursor_Cursor_Place := by
  refine ok_om0 cok_cursor_Cursor_Place mixed Tryz.func27 rfl (by kernel_rfl) (by kernel_rfl) rfl ?_
  intro c id om cs h1 h2 _
  obtain ⟨x, v, rfl, hc, hb⟩ := cuOf_inv h2
  unfold cuC at h1
  simp only [go_sem, Tryz.f27, kn1, kn2, kn3, kn4, kn5, kn6, kn7, kn8, kn9, kz1, kz2, kz3, kz4, kz5, kz6, kz7, kz8, kz9, kz0, reduceCtorEq, String.reduceEq, kn0, kq1, kq2, kq3, kq4, Int.toNat_natCast, h1]
@[go_sem] noncomputable def c_cursor_Cursor_left : Cn := om0 cuOf (fun _ => True) fun c => vW (glim c.k - c.p)
noncomputable def cx_cursor_Cursor_left : Cx := { T := T, E := E, cs := [(37, c_gen_Limit), (87, c_wide_Sub)], sch := [(1, false, .take 0 (.take 1 (.take 2 (.take 3 (.take 5 (.take 6 (.take 7 (.take 8 (.alt 4 (.alt 9 (.take 10 (.take 11 (.take 12 (.alt 13 (.alt 14 (.take 15 (.done)) .no) .no)))) (.alt 13 (.alt 9 (.take 10 (.take 11 (.take 12 (.alt 14 (.take 15 (.done)) .no)))) .no) (.no))) (.alt 13 (.alt 4 (.alt 9 (.take 10 (.take 11 (.take 12 (.alt 14 (.take 15 (.done)) .no)))) .no) .no) (.no)))))))))))], ob := [], qs := [37, 87] }
@[go_sem] theorem cx_cursor_Cursor_left_e : cx_cursor_Cursor_left.gs = none ∧ cx_cursor_Cursor_left.md = 0 ∧ cx_cursor_Cursor_left.T = T ∧ cx_cursor_Cursor_left.E = E ∧ cx_cursor_Cursor_left.cs = [(37, c_gen_Limit), (87, c_wide_Sub)] ∧ cx_cursor_Cursor_left.sch = [(1, false, .take 0 (.take 1 (.take 2 (.take 3 (.take 5 (.take 6 (.take 7 (.take 8 (.alt 4 (.alt 9 (.take 10 (.take 11 (.take 12 (.alt 13 (.alt 14 (.take 15 (.done)) .no) .no)))) (.alt 13 (.alt 9 (.take 10 (.take 11 (.take 12 (.alt 14 (.take 15 (.done)) .no)))) .no) (.no))) (.alt 13 (.alt 4 (.alt 9 (.take 10 (.take 11 (.take 12 (.alt 14 (.take 15 (.done)) .no)))) .no) .no) (.no)))))))))))] ∧ ∀ d, (cx_cursor_Cursor_left.ob).contains d = false := ⟨rfl, rfl, rfl, rfl, rfl, rfl, fun _ => rfl⟩
theorem cok_cursor_Cursor_left : COk Tryz.prog (cx_cursor_Cursor_left) := cok_of rfl (.cons ok_gen_Limit (.cons ok_wide_Sub (.nil))) (.cons (fun _ => fn1_quiet) (.cons (fun _ => fn2_quiet) (.nil))) (.nil)
theorem ok_cursor_Cursor_left : Ok Tryz.prog 82 c_cursor_Cursor_left := by
  refine ok_om0 cok_cursor_Cursor_left mixed Tryz.func82 rfl (by kernel_rfl) (by kernel_rfl) rfl ?_
  intro c id om cs h1 h2 _
  obtain ⟨x, v, rfl, hc, hb⟩ := cuOf_inv h2
  have hp := hc.2.2.2
  have hg := glim_lt c.k
  have e : (glim c.k + 340282366920938463463374607431768211456 - c.p) % 340282366920938463463374607431768211456 = glim c.k - c.p := by omega
  unfold cuC at h1
  simp only [go_sem, Tryz.f82, kn1, kn2, kn3, kn4, kn5, kn6, kn7, kn8, kn9, kz1, kz2, kz3, kz4, kz5, kz6, kz7, kz8, kz9, kz0, reduceCtorEq, String.reduceEq, kn0, kq1, kq2, kq3, kq4, Int.toNat_natCast, h1, e]
@[go_sem] noncomputable def c_cursor_Cursor_State : Cn := om0 cuOf (fun _ => True) fun c => vG (gjump (snew c.k c.n) c.p)
noncomputable def cx_cursor_Cursor_State : Cx := { T := T, E := E, cs := [(75, c_seed_New), (76, c_gen_Jump)], sch := [(1, false, .take 0 (.take 1 (.take 2 (.take 3 (.take 4 (.take 5 (.take 6 (.take 7 (.alt 8 (.take 9 (.take 10 (.take 11 (.alt 12 (.alt 13 (.take 14 (.done)) .no) .no)))) (.alt 12 (.alt 8 (.take 9 (.take 10 (.take 11 (.alt 13 (.take 14 (.done)) .no)))) .no) (.no))))))))))), (2, false, .take 0 (.take 1 (.take 2 (.take 3 (.take 4 (.alt 5 (.take 6 (.take 7 (.take 8 (.alt 9 (.done) .no)))) .no))))))], ob := [], qs := [75, 76] }
@[go_sem] theorem cx_cursor_Cursor_State_e : cx_cursor_Cursor_State.gs = none ∧ cx_cursor_Cursor_State.md = 0 ∧ cx_cursor_Cursor_State.T = T ∧ cx_cursor_Cursor_State.E = E ∧ cx_cursor_Cursor_State.cs = [(75, c_seed_New), (76, c_gen_Jump)] ∧ cx_cursor_Cursor_State.sch = [(1, false, .take 0 (.take 1 (.take 2 (.take 3 (.take 4 (.take 5 (.take 6 (.take 7 (.alt 8 (.take 9 (.take 10 (.take 11 (.alt 12 (.alt 13 (.take 14 (.done)) .no) .no)))) (.alt 12 (.alt 8 (.take 9 (.take 10 (.take 11 (.alt 13 (.take 14 (.done)) .no)))) .no) (.no))))))))))), (2, false, .take 0 (.take 1 (.take 2 (.take 3 (.take 4 (.alt 5 (.take 6 (.take 7 (.take 8 (.alt 9 (.done) .no)))) .no))))))] ∧ ∀ d, (cx_cursor_Cursor_State.ob).contains d = false := ⟨rfl, rfl, rfl, rfl, rfl, rfl, fun _ => rfl⟩
theorem cok_cursor_Cursor_State : COk Tryz.prog (cx_cursor_Cursor_State) := cok_of rfl (.cons ok_seed_New (.cons ok_gen_Jump (.nil))) (.cons (fun _ => fn2i_quiet) (.cons (fun _ => fn2i_quiet) (.nil))) (.nil)
theorem ok_cursor_Cursor_State : Ok Tryz.prog 22 c_cursor_Cursor_State := by
  refine ok_om0 cok_cursor_Cursor_State mixed Tryz.func22 rfl (by kernel_rfl) (by kernel_rfl) rfl ?_
  intro c id om cs h1 h2 _
  obtain ⟨x, v, rfl, hc, hb⟩ := cuOf_inv h2
  obtain ⟨s1, s2, s3⟩ := snew_ok hc.1 hc.2.1
  have hk := eq_true hc.1.1
  have hk' := eq_true hc.1.2
  unfold cuC at h1
  simp only [go_sem, Tryz.f22, kn1, kn2, kn3, kn4, kn5, kn6, kn7, kn8, kn9, kz1, kz2, kz3, kz4, kz5, kz6, kz7, kz8, kz9, kz0, reduceCtorEq, String.reduceEq, kn0, kq1, kq2, kq3, kq4, Int.toNat_natCast, h1, hk, hk', s2]
noncomputable def c_slices_Clone_uint64_uint64 : Cn
  | [.sl xs], om, K => @so _ (decs (tN .u64) xs) ⟨fun l => l.length ≤ 4294967296 ∧ K.k (.sl xs) om⟩
  | [.arr (.obj id off) len], om, K => @so _ (om id) ⟨fun cs => @so _ (decs (tN .u64) ((cs.drop off).take len)) ⟨fun l => (off + len ≤ cs.length ∧ len ≤ 4294967296) ∧ K.k (.sl ((cs.drop off).take len)) om⟩⟩
  | _, _, _ => False
attribute [go_sem] c_slices_Clone_uint64_uint64.eq_1 c_slices_Clone_uint64_uint64.eq_2
theorem c_slices_Clone_uint64_uint64_mono : Mono c_slices_Clone_uint64_uint64 := by
  intro args om K K' hK h
  unfold c_slices_Clone_uint64_uint64 at h ⊢
  split at h
  · exact mono_so (fun _ h => ⟨h.1, hK _ _ h.2⟩) h
  · exact mono_so (fun _ h => mono_so (fun _ h => ⟨h.1, hK _ _ h.2⟩) h) h
  · exact h.elim
theorem quiet_slices_Clone_uint64_uint64 : Quiet c_slices_Clone_uint64_uint64 := by
  intro args om K h
  unfold c_slices_Clone_uint64_uint64 at h ⊢
  split at h
  · exact mono_so (fun _ h => ⟨h.1, .refl _, h.2⟩) h
  · exact mono_so (fun _ h => mono_so (fun _ h => ⟨h.1, .refl _, h.2⟩) h) h
  · exact h.elim
noncomputable def cx_slices_Clone_uint64_uint64 : Cx := { T := T, E := E, cs := [], sch := [], ob := [], qs := [] }
@[go_sem] theorem cx_slices_Clone_uint64_uint64_e : cx_slices_Clone_uint64_uint64.gs = none ∧ cx_slices_Clone_uint64_uint64.md = 0 ∧ cx_slices_Clone_uint64_uint64.T = T ∧ cx_slices_Clone_uint64_uint64.E = E ∧ cx_slices_Clone_uint64_uint64.cs = [] ∧ ∀ d, (cx_slices_Clone_uint64_uint64.ob).contains d = false := ⟨rfl, rfl, rfl, rfl, rfl, fun _ => rfl⟩
theorem cok_slices_Clone_uint64_uint64 : COk Tryz.prog (cx_slices_Clone_uint64_uint64) := cok_of rfl (.nil) (.nil) (.nil)
theorem ok_slices_Clone_uint64_uint64 : Ok Tryz.prog 88 c_slices_Clone_uint64_uint64 := by
  refine ok_of_body1 cok_slices_Clone_uint64_uint64 mixed Tryz.func88 rfl (by kernel_rfl) (by kernel_rfl) c_slices_Clone_uint64_uint64_mono fun args om Q hw h => ?_
  unfold c_slices_Clone_uint64_uint64 at h
  split at h <;> first | exact h.elim | skip
  · rename_i om _ _ _ xs
    replace h := so_inv h; obtain ⟨l, hl, h0, h⟩ := h
    obtain rfl := els_decs (tN .u64) _ _ hl
    have h' : Q (.sl (els (V.n .u64) l)) om := h
    rw [show els (tN .u64).enc l = els (V.n .u64) l from rfl]
    simp only [go_sem, Tryz.f88, kn1, kn2, kn3, kn4, kn5, kn6, kn7, kn8, kn9, kz1, kz2, kz3, kz4, kz5, kz6, kz7, kz8, kz9, kz0, reduceCtorEq, String.reduceEq, kn0, kq1, kq2, kq3, kq4, Int.toNat_natCast]
    refine ⟨fun e => ?_, by omega, ?_⟩
    · rw [e] at h'; exact h'
    · exact h'
  · rename_i om _ _ _ id off len
    replace h := so_inv h; obtain ⟨cs, hcs, h⟩ := h
    replace h := so_inv h; obtain ⟨l, hl, ⟨h0, h1⟩, h⟩ := h
    have e := els_decs (tN .u64) _ _ hl
    rw [show els (tN .u64).enc l = els (V.n .u64) l from rfl] at e
    have ln : l.length = len := by
      have := congrArg List.length e
      rw [els_len, List.length_take, List.length_drop] at this; omega
    have h' : Q (.sl (els (V.n .u64) l)) om := by rw [← e]; exact h
    simp only [go_sem, Tryz.f88, kn1, kn2, kn3, kn4, kn5, kn6, kn7, kn8, kn9, kz1, kz2, kz3, kz4, kz5, kz6, kz7, kz8, kz9, kz0, reduceCtorEq, String.reduceEq, kn0, kq1, kq2, kq3, kq4, Int.toNat_natCast, hcs, e]
    refine ⟨fun e => ?_, h0, by omega, ?_⟩
    · have : l = [] := List.eq_nil_of_length_eq_zero (by omega)
      rw [this] at h'; exact h'
    · exact h'
theorem cuC_buf {k : Int} {n p : Nat} {x : B8} {v : V} {A : GS} {lo m : Nat} (h : lo + m ≤ 8) : ((cuC k n p x v A).drop (4 + lo)).take m = els (V.n .u64) ((x.l.drop lo).take m) ∧ 4 + lo + m ≤ (cuC k n p x v A).length := by
  refine ⟨?_, by simp only [cuC, List.length_cons, List.length_nil]; omega⟩
  have e : cuC k n p x v A = (cuC k n p x v A).take 4 ++ (els (V.n .u64) x.l ++ (cuC k n p x v A).drop 12) := rfl
  rw [e, List.drop_append, List.drop_of_length_le (by rw [List.length_take]; omega), List.nil_append, show 4 + lo - ((cuC k n p x v A).take 4).length = lo by show 4 + lo - 4 = lo; omega, List.drop_append, List.take_append, show (els (V.n .u64) x.l).length = 8 from rfl, List.length_drop, show (els (V.n .u64) x.l).length = 8 from rfl, show m - (8 - lo) = 0 by omega, List.take_zero, List.append_nil, els_drop, els_take]
def Cu.buf (c : Cu) : List Nat := swords (gjump (snew c.k c.n) c.p) c.m
theorem wAt_add {k : Int} {n p i : Nat} (hk : 1 ≤ k ∧ k ≤ 4) (hn : n < 18446744073709551616) : gword (gst (gjump (snew k n) p) i) = wAt k n (p + i) := by
  obtain ⟨s1, s2, s3⟩ := snew_ok hk hn
  obtain ⟨t1, t2, t3⟩ := gjump_ok s1 s2 p
  rw [gst_gjump t1 t2, gjump_add s1 s2]; rfl
theorem swords_getD {k : Int} {n p m i : Nat} (hk : 1 ≤ k ∧ k ≤ 4) (hn : n < 18446744073709551616) (hi : i < m) : (swords (gjump (snew k n) p) m).getD i 0 = wAt k n (p + i) := by
  rw [← wAt_add hk hn]
  simp [swords, List.getD_eq_getElem?_getD, hi]
theorem ext0 {l m : List Nat} (h : l.length = m.length) (g : ∀ i, i < l.length → l.getD i 0 = m.getD i 0) : l = m := by
  apply List.ext_getElem h
  intro i h1 h2
  have := g i h1
  rw [List.getD_eq_getElem?_getD, List.getD_eq_getElem?_getD, List.getElem?_eq_getElem h1, List.getElem?_eq_getElem h2] at this
  exact this
theorem bufOk_buf {id : Nat} {c : Cu} {x : B8} {lo : Nat} (hc : c.ok) (h1 : lo + c.m ≤ 8) (h2 : ∀ i, i < c.m → x.l.getD (lo + i) 0 = wAt c.k c.n (c.p + i)) : (x.l.drop lo).take c.m = c.buf := by
  have l8 : x.l.length = 8 := rfl
  refine ext0 (by rw [List.length_take, List.length_drop, l8]; simp only [Cu.buf, swords_len]; omega) fun i hi => ?_
  have hi' : i < c.m := by rw [List.length_take] at hi; omega
  rw [Cu.buf, swords_getD hc.1 hc.2.1 hi', ← h2 i hi']
  simp [List.getD_eq_getElem?_getD, List.getElem?_take, List.getElem?_drop, hi']
@[go_sem] noncomputable def c_cursor_Cursor_Buffered : Cn := om0 cuOf (fun _ => True) fun c => .sl (els (V.n .u64) c.buf)
noncomputable def cx_cursor_Cursor_Buffered : Cx := { T := T, E := E, cs := [(88, c_slices_Clone_uint64_uint64)], sch := [], ob := [], qs := [88] }
@[go_sem] theorem cx_cursor_Cursor_Buffered_e : cx_cursor_Cursor_Buffered.gs = none ∧ cx_cursor_Cursor_Buffered.md = 0 ∧ cx_cursor_Cursor_Buffered.T = T ∧ cx_cursor_Cursor_Buffered.E = E ∧ cx_cursor_Cursor_Buffered.cs = [(88, c_slices_Clone_uint64_uint64)] ∧ ∀ d, (cx_cursor_Cursor_Buffered.ob).contains d = false := ⟨rfl, rfl, rfl, rfl, rfl, fun _ => rfl⟩
theorem cok_cursor_Cursor_Buffered : COk Tryz.prog (cx_cursor_Cursor_Buffered) := cok_of rfl (.cons ok_slices_Clone_uint64_uint64 (.nil)) (.cons (fun _ => quiet_slices_Clone_uint64_uint64) (.nil)) (.nil)
theorem ok_cursor_Cursor_Buffered : Ok Tryz.prog 29 c_cursor_Cursor_Buffered := by
  refine ok_om0 cok_cursor_Cursor_Buffered mixed Tryz.func29 rfl (by kernel_rfl) (by kernel_rfl) rfl ?_
  intro c id om cs h1 h2 _
  obtain ⟨x, v, rfl, hc, hb⟩ := cuOf_inv h2
  have hm := hc.2.2.1
  rcases hb with ⟨hb, rfl⟩ | ⟨lo, rfl, hb1, hb2⟩
  · have e : c.buf = [] := by unfold Cu.buf; rw [hb]; rfl
    unfold cuC at h1
    simp only [go_sem, Tryz.f29, kn1, kn2, kn3, kn4, kn5, kn6, kn7, kn8, kn9, kz1, kz2, kz3, kz4, kz5, kz6, kz7, kz8, kz9, kz0, reduceCtorEq, String.reduceEq, kn0, kq1, kq2, kq3, kq4, Int.toNat_natCast, h1, e]
  · obtain ⟨e1, e2⟩ := cuC_buf (k := c.k) (n := c.n) (p := c.p) (x := x) (v := .arr (.obj id (4 + lo)) c.m) (A := gjump (snew c.k c.n) (c.p + c.m)) hb1
    rw [bufOk_buf (id := id) hc hb1 hb2] at e1
    unfold cuC at h1 e1 e2
    simp only [go_sem, Tryz.f29, kn1, kn2, kn3, kn4, kn5, kn6, kn7, kn8, kn9, kz1, kz2, kz3, kz4, kz5, kz6, kz7, kz8, kz9, kz0, reduceCtorEq, String.reduceEq, kn0, kq1, kq2, kq3, kq4, Int.toNat_natCast, h1, e1, e2]
    try omega
end Go.Proofs.YteomkgcepiecjaaGreat.I
