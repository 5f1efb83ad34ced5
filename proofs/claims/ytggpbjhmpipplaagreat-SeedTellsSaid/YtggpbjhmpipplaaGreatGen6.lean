/- gen: the state of bytes; Put, Take. -/
import Derived.Test.YtggpbjhmpipplaaGreatGen5
namespace Go.Proofs.YtggpbjhmpipplaaGreat.I
open Go
open Nat renaming reduceEqDiff → kn1, reduceBEq → kn2, reducePow → kn3, reduceMod → kn4, reduceAdd → kn5, reduceSub → kn6, reduceMul → kn7, reduceDiv → kn8, reduceLeDiff → kn9, reduceLT → kn0, zero_lt_one → kq1, zero_add → kq2, zero_le → kq3, le_refl → kq4
open Int renaming reduceToNat → kz1, reduceAdd → kz2, reduceSub → kz3, reduceMul → kz4, reduceDiv → kz5, reduceMod → kz6, reduceLE → kz7, reduceLT → kz8, reduceNeg → kz9, reduceEq → kz0
set_option maxRecDepth 10000
set_option linter.unusedSimpArgs false
set_option linter.unusedVariables false

@[go_sem] noncomputable def c_gen_mixKind_size : Cn := fn1 tE (fun _ => True) fun _ => .z 8
noncomputable def cx_gen_mixKind_size : Cx := { T := T, E := E, cs := [], sch := [], ob := [], qs := [] }
@[go_sem] theorem cx_gen_mixKind_size_e : cx_gen_mixKind_size.gs = none ∧ cx_gen_mixKind_size.md = 0 ∧ cx_gen_mixKind_size.T = T ∧ cx_gen_mixKind_size.E = E ∧ cx_gen_mixKind_size.cs = [] ∧ ∀ d, (cx_gen_mixKind_size.ob).contains d = false := ⟨rfl, rfl, rfl, rfl, rfl, fun _ => rfl⟩
theorem cok_gen_mixKind_size : COk Tryz.prog (cx_gen_mixKind_size) := cok_of rfl (.nil) (.nil) (.nil)
theorem ok_gen_mixKind_size : Ok Tryz.prog 105 c_gen_mixKind_size := by
  refine ok_fn1 cok_gen_mixKind_size mixed Tryz.func105 rfl (by kernel_rfl) (by kernel_rfl) rfl ?_
  intro _ om hw _
  simp only [go_sem, Tryz.f105, kn1, kn2, kn3, kn4, kn5, kn6, kn7, kn8, kn9, kz1, kz2, kz3, kz4, kz5, kz6, kz7, kz8, kz9, kz0, reduceCtorEq, String.reduceEq, kn0, kq1, kq2, kq3, kq4, Int.toNat_natCast]
@[go_sem] noncomputable def c_gen_xoshKind_size : Cn := fn1 tE (fun _ => True) fun _ => .z 32
noncomputable def cx_gen_xoshKind_size : Cx := { T := T, E := E, cs := [], sch := [], ob := [], qs := [] }
@[go_sem] theorem cx_gen_xoshKind_size_e : cx_gen_xoshKind_size.gs = none ∧ cx_gen_xoshKind_size.md = 0 ∧ cx_gen_xoshKind_size.T = T ∧ cx_gen_xoshKind_size.E = E ∧ cx_gen_xoshKind_size.cs = [] ∧ ∀ d, (cx_gen_xoshKind_size.ob).contains d = false := ⟨rfl, rfl, rfl, rfl, rfl, fun _ => rfl⟩
theorem cok_gen_xoshKind_size : COk Tryz.prog (cx_gen_xoshKind_size) := cok_of rfl (.nil) (.nil) (.nil)
theorem ok_gen_xoshKind_size : Ok Tryz.prog 122 c_gen_xoshKind_size := by
  refine ok_fn1 cok_gen_xoshKind_size mixed Tryz.func122 rfl (by kernel_rfl) (by kernel_rfl) rfl ?_
  intro _ om hw _
  simp only [go_sem, Tryz.f122, kn1, kn2, kn3, kn4, kn5, kn6, kn7, kn8, kn9, kz1, kz2, kz3, kz4, kz5, kz6, kz7, kz8, kz9, kz0, reduceCtorEq, String.reduceEq, kn0, kq1, kq2, kq3, kq4, Int.toNat_natCast]
@[go_sem] noncomputable def c_gen_pcgKind_size : Cn := fn1 tE (fun _ => True) fun _ => .z 32
noncomputable def cx_gen_pcgKind_size : Cx := { T := T, E := E, cs := [], sch := [], ob := [], qs := [] }
@[go_sem] theorem cx_gen_pcgKind_size_e : cx_gen_pcgKind_size.gs = none ∧ cx_gen_pcgKind_size.md = 0 ∧ cx_gen_pcgKind_size.T = T ∧ cx_gen_pcgKind_size.E = E ∧ cx_gen_pcgKind_size.cs = [] ∧ ∀ d, (cx_gen_pcgKind_size.ob).contains d = false := ⟨rfl, rfl, rfl, rfl, rfl, fun _ => rfl⟩
theorem cok_gen_pcgKind_size : COk Tryz.prog (cx_gen_pcgKind_size) := cok_of rfl (.nil) (.nil) (.nil)
theorem ok_gen_pcgKind_size : Ok Tryz.prog 171 c_gen_pcgKind_size := by
  refine ok_fn1 cok_gen_pcgKind_size mixed Tryz.func171 rfl (by kernel_rfl) (by kernel_rfl) rfl ?_
  intro _ om hw _
  simp only [go_sem, Tryz.f171, kn1, kn2, kn3, kn4, kn5, kn6, kn7, kn8, kn9, kz1, kz2, kz3, kz4, kz5, kz6, kz7, kz8, kz9, kz0, reduceCtorEq, String.reduceEq, kn0, kq1, kq2, kq3, kq4, Int.toNat_natCast]
@[go_sem] noncomputable def c_gen_philoxKind_size : Cn := fn1 tE (fun _ => True) fun _ => .z 25
noncomputable def cx_gen_philoxKind_size : Cx := { T := T, E := E, cs := [], sch := [], ob := [], qs := [] }
@[go_sem] theorem cx_gen_philoxKind_size_e : cx_gen_philoxKind_size.gs = none ∧ cx_gen_philoxKind_size.md = 0 ∧ cx_gen_philoxKind_size.T = T ∧ cx_gen_philoxKind_size.E = E ∧ cx_gen_philoxKind_size.cs = [] ∧ ∀ d, (cx_gen_philoxKind_size.ob).contains d = false := ⟨rfl, rfl, rfl, rfl, rfl, fun _ => rfl⟩
theorem cok_gen_philoxKind_size : COk Tryz.prog (cx_gen_philoxKind_size) := cok_of rfl (.nil) (.nil) (.nil)
theorem ok_gen_philoxKind_size : Ok Tryz.prog 190 c_gen_philoxKind_size := by
  refine ok_fn1 cok_gen_philoxKind_size mixed Tryz.func190 rfl (by kernel_rfl) (by kernel_rfl) rfl ?_
  intro _ om hw _
  simp only [go_sem, Tryz.f190, kn1, kn2, kn3, kn4, kn5, kn6, kn7, kn8, kn9, kz1, kz2, kz3, kz4, kz5, kz6, kz7, kz8, kz9, kz0, reduceCtorEq, String.reduceEq, kn0, kq1, kq2, kq3, kq4, Int.toNat_natCast]

/-- A part of a list. -/
def sb (l : List Nat) (i j : Nat) : List Nat := (l.take j).drop i
theorem sb_len (l : List Nat) {i j : Nat} (h : i ≤ j) (h' : j ≤ l.length) : (sb l i j).length = j - i := by
  simp [sb]; omega
def xtake (p : List Nat) : X4 := ⟨ofb (sb p 0 8), ofb (sb p 8 16), ofb (sb p 16 24), ofb (sb p 24 32)⟩
def xtk (p : List Nat) : Nat → X4
  | 0 => x0
  | 1 => ⟨ofb (sb p 0 8), 0, 0, 0⟩
  | 2 => ⟨ofb (sb p 0 8), ofb (sb p 8 16), 0, 0⟩
  | 3 => ⟨ofb (sb p 0 8), ofb (sb p 8 16), ofb (sb p 16 24), 0⟩
  | _ => xtake p
theorem xtk_0 (p : List Nat) : xtk p 0 = x0 := rfl
theorem xtk_1 (p : List Nat) : xtk p 1 = ⟨ofb (sb p 0 8), 0, 0, 0⟩ := rfl
theorem xtk_2 (p : List Nat) : xtk p 2 = ⟨ofb (sb p 0 8), ofb (sb p 8 16), 0, 0⟩ := rfl
theorem xtk_3 (p : List Nat) : xtk p 3 = ⟨ofb (sb p 0 8), ofb (sb p 8 16), ofb (sb p 16 24), 0⟩ := rfl
theorem xtk_4 (p : List Nat) : xtk p 4 = xtake p := rfl
def htake (p : List Nat) : HS := ⟨ofb (p.take 16), ⟨ofb (sb p 16 20), ofb (sb p 20 24)⟩, decide (p.getD 24 0 = 1)⟩
@[go_sem] noncomputable def c_gen_mixKind_take : Cn := fn2 tE tY8 (fun _ p => p.length = 8) fun _ p => .tup [vG (g1 (ofb p)), .b true]
noncomputable def cx_gen_mixKind_take : Cx := { T := T, E := E, cs := [(111, c_gen_number)], sch := [], ob := [], qs := [111] }
@[go_sem] theorem cx_gen_mixKind_take_e : cx_gen_mixKind_take.gs = none ∧ cx_gen_mixKind_take.md = 0 ∧ cx_gen_mixKind_take.T = T ∧ cx_gen_mixKind_take.E = E ∧ cx_gen_mixKind_take.cs = [(111, c_gen_number)] ∧ ∀ d, (cx_gen_mixKind_take.ob).contains d = false := ⟨rfl, rfl, rfl, rfl, rfl, fun _ => rfl⟩
theorem cok_gen_mixKind_take : COk Tryz.prog (cx_gen_mixKind_take) := cok_of rfl (.cons ok_gen_number (.nil)) (.cons (fun _ => fn1_quiet) (.nil)) (.nil)
theorem ok_gen_mixKind_take : Ok Tryz.prog 107 c_gen_mixKind_take := by
  refine ok_fn2 cok_gen_mixKind_take mixed Tryz.func107 rfl (by kernel_rfl) (by kernel_rfl) rfl ?_
  intro _ p om hw hp
  simp only [go_sem, Tryz.f107, kn1, kn2, kn3, kn4, kn5, kn6, kn7, kn8, kn9, kz1, kz2, kz3, kz4, kz5, kz6, kz7, kz8, kz9, kz0, reduceCtorEq, String.reduceEq, kn0, kq1, kq2, kq3, kq4, Int.toNat_natCast, hp, g1, x0, d0, h0, k0]
@[go_sem] noncomputable def c_gen_xoshKind_take : Cn := fn2 tE tY8 (fun _ p => p.length = 32) fun _ p => .tup [vG (g2 (xtake p)), .b true]
noncomputable def cx_gen_xoshKind_take : Cx := { T := T, E := E, cs := [(111, c_gen_number)], sch := [], ob := [], qs := [111] }
@[go_sem] theorem cx_gen_xoshKind_take_e : cx_gen_xoshKind_take.gs = none ∧ cx_gen_xoshKind_take.md = 0 ∧ cx_gen_xoshKind_take.T = T ∧ cx_gen_xoshKind_take.E = E ∧ cx_gen_xoshKind_take.cs = [(111, c_gen_number)] ∧ ∀ d, (cx_gen_xoshKind_take.ob).contains d = false := ⟨rfl, rfl, rfl, rfl, rfl, fun _ => rfl⟩
theorem cok_gen_xoshKind_take : COk Tryz.prog (cx_gen_xoshKind_take) := cok_of rfl (.cons ok_gen_number (.nil)) (.cons (fun _ => fn1_quiet) (.nil)) (.nil)
theorem ok_gen_xoshKind_take : Ok Tryz.prog 124 c_gen_xoshKind_take := by
  refine ok_fn2 cok_gen_xoshKind_take mixed Tryz.func124 rfl (by kernel_rfl) (by kernel_rfl) rfl ?_
  intro _ p om hw hp
  have hb := (wf_8 hw.2).2
  have q0 := sb_len p (i := 0) (j := 8) (by omega) (by omega)
  have q1 := sb_len p (i := 8) (j := 16) (by omega) (by omega)
  have q2 := sb_len p (i := 16) (j := 24) (by omega) (by omega)
  have q3 := sb_len p (i := 24) (j := 32) (by omega) (by omega)
  simp only [go_sem, Tryz.f124, kn1, kn2, kn3, kn4, kn5, kn6, kn7, kn8, kn9, kz1, kz2, kz3, kz4, kz5, kz6, kz7, kz8, kz9, kz0, reduceCtorEq, String.reduceEq, kn0, kq1, kq2, kq3, kq4, Int.toNat_natCast]
  refine ⟨Nat, fun k => ⟨[.u, .sl (els (V.n .u8) p), .u, .u, .ref 4 1 15 0 0, .u, .ref 6 1 15 0 0, .u, .u, .z k, .u, .u, .u, .u, .u, .u, .u, .u, .u, .u, .u, .u, .u, .u, .u], [(6, ⟨15, true, [vG (g2 (xtk p k))], false⟩), (4, ⟨15, true, [vG gz], false⟩)], om⟩, fun k => k ≤ 4, fun k => 4 - k, ⟨0, by omega, ?_⟩, ?_⟩
  · simp only [go_sem, kn1, kn2, kn3, kn4, kn5, kn6, kn7, kn8, kn9, kz1, kz2, kz3, kz4, kz5, kz6, kz7, kz8, kz9, kz0, reduceCtorEq, String.reduceEq, kn0, kq1, kq2, kq3, kq4, Int.toNat_natCast, xtk_0, g2, gz, x0, d0, h0, k0]
  · intro k hk
    obtain rfl | rfl | rfl | rfl | rfl : k = 0 ∨ k = 1 ∨ k = 2 ∨ k = 3 ∨ k = 4 := by omega
    all_goals simp only [go_sem, kn1, kn2, kn3, kn4, kn5, kn6, kn7, kn8, kn9, kz1, kz2, kz3, kz4, kz5, kz6, kz7, kz8, kz9, kz0, reduceCtorEq, String.reduceEq, kn0, kq1, kq2, kq3, kq4, Int.toNat_natCast, xtk_0, xtk_1, xtk_2, xtk_3, xtk_4, g2, gz, x0, d0, h0, k0, hp]
    · exact ⟨by simp; omega, fun _ => ⟨1, by omega, ⟨by omega, by simp only [xtk_1, sb, List.drop_zero, and_self]⟩, by omega⟩⟩
    · exact ⟨by simp; omega, fun _ => ⟨2, by omega, ⟨by omega, by simp only [xtk_2, sb, List.drop_zero, and_self]⟩, by omega⟩⟩
    · exact ⟨by simp; omega, fun _ => ⟨3, by omega, ⟨by omega, by simp only [xtk_3, sb, List.drop_zero, and_self]⟩, by omega⟩⟩
    · exact ⟨by simp; omega, fun _ => ⟨4, by omega, ⟨by omega, by simp only [xtk_4, xtake, sb, List.drop_zero, and_self]⟩, by omega⟩⟩
@[go_sem] noncomputable def c_gen_pcgKind_take : Cn := fn2 tE tY8 (fun _ p => p.length = 32) fun _ p => .tup [vG (g3 ⟨ofb (p.take 16), ofb (p.drop 16)⟩), .b true]
noncomputable def cx_gen_pcgKind_take : Cx := { T := T, E := E, cs := [(178, c_gen_long)], sch := [(1, false, .take 0 (.take 2 (.take 3 (.alt 1 (.alt 4 (.take 5 (.take 6 (.alt 7 (.take 8 (.done)) .no))) .no) .no))))], ob := [], qs := [178] }
@[go_sem] theorem cx_gen_pcgKind_take_e : cx_gen_pcgKind_take.gs = none ∧ cx_gen_pcgKind_take.md = 0 ∧ cx_gen_pcgKind_take.T = T ∧ cx_gen_pcgKind_take.E = E ∧ cx_gen_pcgKind_take.cs = [(178, c_gen_long)] ∧ cx_gen_pcgKind_take.sch = [(1, false, .take 0 (.take 2 (.take 3 (.alt 1 (.alt 4 (.take 5 (.take 6 (.alt 7 (.take 8 (.done)) .no))) .no) .no))))] ∧ ∀ d, (cx_gen_pcgKind_take.ob).contains d = false := ⟨rfl, rfl, rfl, rfl, rfl, rfl, fun _ => rfl⟩
theorem cok_gen_pcgKind_take : COk Tryz.prog (cx_gen_pcgKind_take) := cok_of rfl (.cons ok_gen_long (.nil)) (.cons (fun _ => fn1_quiet) (.nil)) (.nil)
theorem ok_gen_pcgKind_take : Ok Tryz.prog 173 c_gen_pcgKind_take := by
  refine ok_fn2 cok_gen_pcgKind_take mixed Tryz.func173 rfl (by kernel_rfl) (by kernel_rfl) rfl ?_
  intro _ p om hw hp
  have q1 : (p.drop 16).length = 16 := by simp; omega
  have q2 : (p.drop 16).take 16 = p.drop 16 := List.take_of_length_le (by omega)
  have q3 : p.take 32 = p := List.take_of_length_le (by omega)
  simp only [go_sem, Tryz.f173, kn1, kn2, kn3, kn4, kn5, kn6, kn7, kn8, kn9, kz1, kz2, kz3, kz4, kz5, kz6, kz7, kz8, kz9, kz0, reduceCtorEq, String.reduceEq, kn0, kq1, kq2, kq3, kq4, Int.toNat_natCast, hp, g3, x0, d0, h0, k0, q3, q2, q1]
@[go_sem] noncomputable def c_gen_philoxKind_take : Cn := fn2 tE tY8 (fun _ p => p.length = 25) fun _ p => .tup [vG (g4 (htake p)), .b (decide (p.getD 24 0 ≤ 1))]
noncomputable def cx_gen_philoxKind_take : Cx := { T := T, E := E, cs := [(111, c_gen_number), (178, c_gen_long)], sch := [(1, false, .take 0 (.take 1 (.take 4 (.take 5 (.alt 2 (.take 3 (.alt 6 (.take 7 (.take 8 (.alt 9 (.alt 10 (.done) .no) .no))) (.alt 9 (.alt 6 (.take 7 (.take 8 (.alt 10 (.done) .no))) .no) (.no)))) (.alt 9 (.alt 2 (.take 3 (.alt 6 (.take 7 (.take 8 (.alt 10 (.done) .no))) .no)) .no) (.no))))))), (2, false, .take 0 (.take 2 (.take 3 (.take 4 (.take 5 (.take 6 (.take 9 (.alt 1 (.take 7 (.take 8 (.alt 10 (.alt 11 (.take 12 (.alt 13 (.take 14 (.done)) .no)) (.alt 13 (.take 11 (.take 12 (.take 14 (.done)))) (.no))) (.alt 13 (.take 10 (.take 11 (.take 12 (.take 14 (.done))))) (.no))))) (.alt 10 (.alt 1 (.take 7 (.take 8 (.alt 11 (.take 12 (.alt 13 (.take 14 (.done)) .no)) (.alt 13 (.take 11 (.take 12 (.take 14 (.done)))) (.no))))) (.alt 11 (.take 12 (.alt 1 (.take 7 (.take 8 (.alt 13 (.take 14 (.done)) .no))) .no)) (.no))) (.no))))))))))], ob := [], qs := [111, 178] }
@[go_sem] theorem cx_gen_philoxKind_take_e : cx_gen_philoxKind_take.gs = none ∧ cx_gen_philoxKind_take.md = 0 ∧ cx_gen_philoxKind_take.T = T ∧ cx_gen_philoxKind_take.E = E ∧ cx_gen_philoxKind_take.cs = [(111, c_gen_number), (178, c_gen_long)] ∧ cx_gen_philoxKind_take.sch = [(1, false, .take 0 (.take 1 (.take 4 (.take 5 (.alt 2 (.take 3 (.alt 6 (.take 7 (.take 8 (.alt 9 (.alt 10 (.done) .no) .no))) (.alt 9 (.alt 6 (.take 7 (.take 8 (.alt 10 (.done) .no))) .no) (.no)))) (.alt 9 (.alt 2 (.take 3 (.alt 6 (.take 7 (.take 8 (.alt 10 (.done) .no))) .no)) .no) (.no))))))), (2, false, .take 0 (.take 2 (.take 3 (.take 4 (.take 5 (.take 6 (.take 9 (.alt 1 (.take 7 (.take 8 (.alt 10 (.alt 11 (.take 12 (.alt 13 (.take 14 (.done)) .no)) (.alt 13 (.take 11 (.take 12 (.take 14 (.done)))) (.no))) (.alt 13 (.take 10 (.take 11 (.take 12 (.take 14 (.done))))) (.no))))) (.alt 10 (.alt 1 (.take 7 (.take 8 (.alt 11 (.take 12 (.alt 13 (.take 14 (.done)) .no)) (.alt 13 (.take 11 (.take 12 (.take 14 (.done)))) (.no))))) (.alt 11 (.take 12 (.alt 1 (.take 7 (.take 8 (.alt 13 (.take 14 (.done)) .no))) .no)) (.no))) (.no))))))))))] ∧ ∀ d, (cx_gen_philoxKind_take.ob).contains d = false := ⟨rfl, rfl, rfl, rfl, rfl, rfl, fun _ => rfl⟩
theorem cok_gen_philoxKind_take : COk Tryz.prog (cx_gen_philoxKind_take) := cok_of rfl (.cons ok_gen_number (.cons ok_gen_long (.nil))) (.cons (fun _ => fn1_quiet) (.cons (fun _ => fn1_quiet) (.nil))) (.nil)
theorem ok_gen_philoxKind_take : Ok Tryz.prog 192 c_gen_philoxKind_take := by
  refine ok_fn2 cok_gen_philoxKind_take mixed Tryz.func192 rfl (by kernel_rfl) (by kernel_rfl) rfl ?_
  intro _ p om hw hp
  simp only [go_sem, Tryz.f192, kn1, kn2, kn3, kn4, kn5, kn6, kn7, kn8, kn9, kz1, kz2, kz3, kz4, kz5, kz6, kz7, kz8, kz9, kz0, reduceCtorEq, String.reduceEq, kn0, kq1, kq2, kq3, kq4, Int.toNat_natCast, hp, g4, htake, x0, d0, h0, k0]
  have hb := (wf_8 hw.2).2
  have q1 := sb_len p (i := 16) (j := 20) (by omega) (by omega)
  have q2 := sb_len p (i := 20) (j := 24) (by omega) (by omega)
  have r1 := ofb_lt (sb p 16 20) fun x hx => hb x (List.mem_of_mem_take (List.mem_of_mem_drop hx))
  have r2 := ofb_lt (sb p 20 24) fun x hx => hb x (List.mem_of_mem_take (List.mem_of_mem_drop hx))
  rw [q1] at r1; rw [q2] at r2
  exact ⟨by show (sb p 16 20).length ≤ 8; omega, fun _ => ⟨by show (sb p 20 24).length ≤ 8; omega, fun _ _ => ⟨Nat.mod_eq_of_lt r1, Nat.mod_eq_of_lt r2⟩⟩⟩
/-- The bytes of a state that may be. -/
def gput (s : GS) : List Nat := if s.kind = 1 then le 8 s.mix else if s.kind = 2 then xput s.x 4 else if s.kind = 3 then le 16 s.p.a ++ le 16 s.p.b else hput s.f 2 ++ [if s.f.h = true then 1 else 0]
theorem gput_1 (m : Nat) : gput (g1 m) = le 8 m := rfl
theorem gput_2 (x : X4) : gput (g2 x) = xput x 4 := rfl
theorem gput_3 (p : D2) : gput (g3 p) = le 16 p.a ++ le 16 p.b := rfl
theorem gput_4 (f : HS) : gput (g4 f) = hput f 2 ++ [if f.h = true then 1 else 0] := rfl
theorem xput_len (x : X4) : (xput x 4).length = 32 := by simp [xput]
theorem gput_len (s : GS) : (gput s).length ≤ 33 := by
  unfold gput
  split
  · simp
  · split
    · rw [xput_len]; omega
    · split
      · simp
      · have := hput_len s.f 2 (by omega); simp; omega
def gbytes (s : GS) : List Nat := s.kind.toNat :: gput s
@[go_sem] noncomputable def c_gen_Put : Cn := fn1i tG (fun _ => True) (fun s => gok s) (fun s => .tup [.sl (els (V.n .u8) (gbytes s)), .z 0]) fun s => .tup [.sl [], .z (gchk s)]
noncomputable def tr_gen_Put : List (Nat × Bool × Sch) := [(4, true, .take 0 (.take 4 (.alt 1 (.take 2 (.alt 3 (.alt 5 (.alt 6 (.alt 7 (.alt 8 (.alt 9 (.take 10 (.take 11 (.done))) .no) .no) .no) (.alt 7 (.alt 6 (.alt 8 (.alt 9 (.take 10 (.take 11 (.done))) .no) .no) .no) (.no))) (.alt 7 (.alt 5 (.alt 6 (.alt 8 (.alt 9 (.take 10 (.take 11 (.done))) .no) .no) .no) .no) (.no))) (.alt 5 (.alt 3 (.alt 6 (.alt 7 (.alt 8 (.alt 9 (.take 10 (.take 11 (.done))) .no) .no) .no) (.alt 7 (.alt 6 (.alt 8 (.alt 9 (.take 10 (.take 11 (.done))) .no) .no) .no) (.no))) (.alt 6 (.alt 3 (.alt 7 (.alt 8 (.alt 9 (.take 10 (.take 11 (.done))) .no) .no) .no) (.alt 7 (.alt 3 (.alt 8 (.alt 9 (.take 10 (.take 11 (.done))) .no) .no) (.alt 8 (.alt 3 (.alt 9 (.take 10 (.take 11 (.done))) .no) .no) (.no))) (.no))) (.alt 7 (.alt 3 (.alt 6 (.alt 8 (.alt 9 (.take 10 (.take 11 (.done))) .no) .no) .no) (.alt 6 (.alt 3 (.alt 8 (.alt 9 (.take 10 (.take 11 (.done))) .no) .no) (.alt 8 (.alt 3 (.alt 9 (.take 10 (.take 11 (.done))) .no) .no) (.no))) (.no))) (.no)))) (.alt 7 (.alt 3 (.alt 5 (.alt 6 (.alt 8 (.alt 9 (.take 10 (.take 11 (.done))) .no) .no) .no) .no) (.alt 5 (.alt 3 (.alt 6 (.alt 8 (.alt 9 (.take 10 (.take 11 (.done))) .no) .no) .no) (.alt 6 (.alt 3 (.alt 8 (.alt 9 (.take 10 (.take 11 (.done))) .no) .no) (.alt 8 (.alt 3 (.alt 9 (.take 10 (.take 11 (.done))) .no) .no) (.no))) (.no))) (.no))) (.no))))) (.alt 5 (.alt 1 (.take 2 (.alt 3 (.alt 6 (.alt 7 (.alt 8 (.alt 9 (.take 10 (.take 11 (.done))) .no) .no) .no) (.alt 7 (.alt 6 (.alt 8 (.alt 9 (.take 10 (.take 11 (.done))) .no) .no) .no) (.no))) (.alt 6 (.alt 3 (.alt 7 (.alt 8 (.alt 9 (.take 10 (.take 11 (.done))) .no) .no) .no) (.alt 7 (.alt 3 (.alt 8 (.alt 9 (.take 10 (.take 11 (.done))) .no) .no) (.alt 8 (.alt 3 (.alt 9 (.take 10 (.take 11 (.done))) .no) .no) (.no))) (.no))) (.alt 7 (.alt 3 (.alt 6 (.alt 8 (.alt 9 (.take 10 (.take 11 (.done))) .no) .no) .no) (.alt 6 (.alt 3 (.alt 8 (.alt 9 (.take 10 (.take 11 (.done))) .no) .no) (.alt 8 (.alt 3 (.alt 9 (.take 10 (.take 11 (.done))) .no) .no) (.no))) (.no))) (.no))))) (.alt 6 (.alt 1 (.take 2 (.alt 3 (.alt 7 (.alt 8 (.alt 9 (.take 10 (.take 11 (.done))) .no) .no) .no) (.alt 7 (.alt 3 (.alt 8 (.alt 9 (.take 10 (.take 11 (.done))) .no) .no) (.alt 8 (.alt 3 (.alt 9 (.take 10 (.take 11 (.done))) .no) .no) (.no))) (.no)))) (.alt 7 (.alt 1 (.take 2 (.alt 3 (.alt 8 (.alt 9 (.take 10 (.take 11 (.done))) .no) .no) (.alt 8 (.alt 3 (.alt 9 (.take 10 (.take 11 (.done))) .no) .no) (.no)))) (.alt 8 (.alt 1 (.take 2 (.alt 3 (.alt 9 (.take 10 (.take 11 (.done))) .no) .no)) .no) (.no))) (.no))) (.alt 7 (.alt 1 (.take 2 (.alt 3 (.alt 6 (.alt 8 (.alt 9 (.take 10 (.take 11 (.done))) .no) .no) .no) (.alt 6 (.alt 3 (.alt 8 (.alt 9 (.take 10 (.take 11 (.done))) .no) .no) (.alt 8 (.alt 3 (.alt 9 (.take 10 (.take 11 (.done))) .no) .no) (.no))) (.no)))) (.alt 6 (.alt 1 (.take 2 (.alt 3 (.alt 8 (.alt 9 (.take 10 (.take 11 (.done))) .no) .no) (.alt 8 (.alt 3 (.alt 9 (.take 10 (.take 11 (.done))) .no) .no) (.no)))) (.alt 8 (.alt 1 (.take 2 (.alt 3 (.alt 9 (.take 10 (.take 11 (.done))) .no) .no)) .no) (.no))) (.no))) (.no)))) (.alt 7 (.alt 1 (.take 2 (.alt 3 (.alt 5 (.alt 6 (.alt 8 (.alt 9 (.take 10 (.take 11 (.done))) .no) .no) .no) .no) (.alt 5 (.alt 3 (.alt 6 (.alt 8 (.alt 9 (.take 10 (.take 11 (.done))) .no) .no) .no) (.alt 6 (.alt 3 (.alt 8 (.alt 9 (.take 10 (.take 11 (.done))) .no) .no) (.alt 8 (.alt 3 (.alt 9 (.take 10 (.take 11 (.done))) .no) .no) (.no))) (.no))) (.no)))) (.alt 5 (.alt 1 (.take 2 (.alt 3 (.alt 6 (.alt 8 (.alt 9 (.take 10 (.take 11 (.done))) .no) .no) .no) (.alt 6 (.alt 3 (.alt 8 (.alt 9 (.take 10 (.take 11 (.done))) .no) .no) (.alt 8 (.alt 3 (.alt 9 (.take 10 (.take 11 (.done))) .no) .no) (.no))) (.no)))) (.alt 6 (.alt 1 (.take 2 (.alt 3 (.alt 8 (.alt 9 (.take 10 (.take 11 (.done))) .no) .no) (.alt 8 (.alt 3 (.alt 9 (.take 10 (.take 11 (.done))) .no) .no) (.no)))) (.alt 8 (.alt 1 (.take 2 (.alt 3 (.alt 9 (.take 10 (.take 11 (.done))) .no) .no)) .no) (.no))) (.no))) (.no))) (.no))))))]
noncomputable def cx_gen_Put : Cx := { T := T, E := E, cs := [(23, c_gen_Check), (46, c_gen_of), (103, c_gen_mixKind_put), (120, c_gen_xoshKind_put), (169, c_gen_pcgKind_put), (188, c_gen_philoxKind_put)], sch := tr_gen_Put, ob := [], qs := [23, 46, 103, 120, 169, 188], mt := [(127, "knucklebone/gen.put", 103), (128, "knucklebone/gen.put", 120), (129, "knucklebone/gen.put", 169), (130, "knucklebone/gen.put", 188)] }
attribute [go_sem] tr_gen_Put
@[go_sem] theorem cx_gen_Put_e : cx_gen_Put.gs = none ∧ cx_gen_Put.md = 0 ∧ cx_gen_Put.T = T ∧ cx_gen_Put.E = E ∧ cx_gen_Put.cs = [(23, c_gen_Check), (46, c_gen_of), (103, c_gen_mixKind_put), (120, c_gen_xoshKind_put), (169, c_gen_pcgKind_put), (188, c_gen_philoxKind_put)] ∧ cx_gen_Put.mt = [(127, "knucklebone/gen.put", 103), (128, "knucklebone/gen.put", 120), (129, "knucklebone/gen.put", 169), (130, "knucklebone/gen.put", 188)] ∧ cx_gen_Put.sch = tr_gen_Put ∧ ∀ d, (cx_gen_Put.ob).contains d = false := ⟨rfl, rfl, rfl, rfl, rfl, rfl, rfl, fun _ => rfl⟩
theorem cok_gen_Put : COk Tryz.prog (cx_gen_Put) := cok_of rfl (.cons ok_gen_Check (.cons ok_gen_of (.cons ok_gen_mixKind_put (.cons ok_gen_xoshKind_put (.cons ok_gen_pcgKind_put (.cons ok_gen_philoxKind_put (.nil))))))) (.cons (fun _ => fn1_quiet) (.cons (fun _ => fn1_quiet) (.cons (fun _ => fn2_quiet) (.cons (fun _ => fn2_quiet) (.cons (fun _ => fn2_quiet) (.cons (fun _ => fn2_quiet) (.nil))))))) (.nil) rfl (.cons (mtOk_in (inf := Tryz.t127) Tryz.type127 (by kernel_rfl) Tryz.underlying127 (by intro e; exact nofun)) (.cons (mtOk_in (inf := Tryz.t128) Tryz.type128 (by kernel_rfl) Tryz.underlying128 (by intro e; exact nofun)) (.cons (mtOk_in (inf := Tryz.t129) Tryz.type129 (by kernel_rfl) Tryz.underlying129 (by intro e; exact nofun)) (.cons (mtOk_in (inf := Tryz.t130) Tryz.type130 (by kernel_rfl) Tryz.underlying130 (by intro e; exact nofun)) (.nil)))))
theorem ok_gen_Put : Ok Tryz.prog 30 c_gen_Put := by
  refine ok_fn1i cok_gen_Put mixed Tryz.func30 rfl (by kernel_rfl) (by kernel_rfl) rfl ?_
  intro s om hw _
  by_cases hk : gok s
  · rw [if_pos hk]
    unfold gbytes
    have hz := gchk_ok hk
    have hl := gput_len s
    have h14 := hk.1
    have eb : (s.kind % 256).toNat = s.kind.toNat := by omega
    have e0 : s.kind = 1 ∨ s.kind = 2 ∨ s.kind = 3 ∨ s.kind = 4 := by omega
    rcases e0 with e0 | e0 | e0 | e0
    · have ek : genOf s.kind = .ifc 127 (.agg []) := by rw [e0]; rfl
      have eg : gput s = le 8 s.mix := by unfold gput; rw [if_pos e0]
      rw [eg] at hl ⊢
      simp only [go_sem, Tryz.f30, kn1, kn2, kn3, kn4, kn5, kn6, kn7, kn8, kn9, kz1, kz2, kz3, kz4, kz5, kz6, kz7, kz8, kz9, kz0, reduceCtorEq, String.reduceEq, kn0, kq1, kq2, kq3, kq4, Int.toNat_natCast, hz, ek, eb, c_gen_mixKind_put]
      exact fun _ => le_take 8 8 s.mix (Nat.le_refl _)
    · have ek : genOf s.kind = .ifc 128 (.agg []) := by rw [e0]; rfl
      have eg : gput s = xput s.x 4 := by unfold gput; rw [if_neg (by rw [e0]; decide), if_pos e0]
      rw [eg] at hl ⊢
      simp only [go_sem, Tryz.f30, kn1, kn2, kn3, kn4, kn5, kn6, kn7, kn8, kn9, kz1, kz2, kz3, kz4, kz5, kz6, kz7, kz8, kz9, kz0, reduceCtorEq, String.reduceEq, kn0, kq1, kq2, kq3, kq4, Int.toNat_natCast, hz, ek, eb, c_gen_xoshKind_put]
      exact fun _ => by omega
    · have ek : genOf s.kind = .ifc 129 (.agg []) := by rw [e0]; rfl
      have eg : gput s = le 16 s.p.a ++ le 16 s.p.b := by unfold gput; rw [if_neg (by rw [e0]; decide), if_neg (by rw [e0]; decide), if_pos e0]
      rw [eg] at hl ⊢
      simp only [go_sem, Tryz.f30, kn1, kn2, kn3, kn4, kn5, kn6, kn7, kn8, kn9, kz1, kz2, kz3, kz4, kz5, kz6, kz7, kz8, kz9, kz0, reduceCtorEq, String.reduceEq, kn0, kq1, kq2, kq3, kq4, Int.toNat_natCast, hz, ek, eb, c_gen_pcgKind_put]
      exact fun _ => by omega
    · have ek : genOf s.kind = .ifc 130 (.agg []) := by rw [e0]; rfl
      have eg : gput s = hput s.f 2 ++ [if s.f.h = true then 1 else 0] := by unfold gput; rw [if_neg (by rw [e0]; decide), if_neg (by rw [e0]; decide), if_neg (by rw [e0]; decide)]
      rw [eg] at hl ⊢
      simp only [go_sem, Tryz.f30, kn1, kn2, kn3, kn4, kn5, kn6, kn7, kn8, kn9, kz1, kz2, kz3, kz4, kz5, kz6, kz7, kz8, kz9, kz0, reduceCtorEq, String.reduceEq, kn0, kq1, kq2, kq3, kq4, Int.toNat_natCast, hz, ek, eb, c_gen_philoxKind_put]
      exact fun _ => by omega
  · rw [if_neg hk]
    have hz : (gchk s = 0) = False := eq_false (gchk_no hk)
    simp only [go_sem, Tryz.f30, kn1, kn2, kn3, kn4, kn5, kn6, kn7, kn8, kn9, kz1, kz2, kz3, kz4, kz5, kz6, kz7, kz8, kz9, kz0, reduceCtorEq, String.reduceEq, kn0, kq1, kq2, kq3, kq4, Int.toNat_natCast, hz]

def gsize (k : Nat) : Nat := if k = 1 then 8 else if k = 4 then 25 else 32
def gread (k : Nat) (p : List Nat) : GS := if k = 1 then g1 (ofb p) else if k = 2 then g2 (xtake p) else if k = 3 then g3 ⟨ofb (p.take 16), ofb (p.drop 16)⟩ else g4 (htake p)
/-- The state of bytes: it, how many, why there is none. -/
def gtake : List Nat → GS × Int × Int
  | [] => (gz, 0, 11)
  | k :: l => if ¬ (1 ≤ k ∧ k ≤ 4) then (gz, 0, 2) else if l.length < gsize k then (gz, 0, 11) else if k = 4 ∧ 1 < l.getD 24 0 then (gz, 0, 11)
    else if gok (gread k (l.take (gsize k))) then (gread k (l.take (gsize k)), gsize k + 1, 0) else (gz, 0, gchk (gread k (l.take (gsize k))))
theorem gtake_long {k : Nat} {l : List Nat} (hk : 1 ≤ k ∧ k ≤ 4) (h1 : ¬ l.length < gsize k) (h2 : ¬ (k = 4 ∧ 1 < l.getD 24 0)) : gtake (k :: l) = if gok (gread k (l.take (gsize k))) then (gread k (l.take (gsize k)), (gsize k : Int) + 1, 0) else (gz, 0, gchk (gread k (l.take (gsize k)))) := by
  unfold gtake; simp only
  rw [if_neg (fun h => h hk), if_neg h1, if_neg h2]
@[go_sem] noncomputable def c_gen_Take : Cn := fn1 tY8 (fun _ => True) fun b => .tup [vG (gtake b).1, .z (gtake b).2.1, .z (gtake b).2.2]
noncomputable def cx_gen_Take : Cx := { T := T, E := E, cs := [(23, c_gen_Check), (46, c_gen_of), (105, c_gen_mixKind_size), (107, c_gen_mixKind_take), (122, c_gen_xoshKind_size), (124, c_gen_xoshKind_take), (171, c_gen_pcgKind_size), (173, c_gen_pcgKind_take), (190, c_gen_philoxKind_size), (192, c_gen_philoxKind_take)], sch := [(9, true, .take 0 (.take 1 (.take 2 (.take 3 (.take 4 (.take 5 (.take 6 (.take 7 (.alt 8 (.take 9 (.take 10 (.take 11 (.alt 12 (.alt 13 (.take 14 (.done)) .no) .no)))) (.alt 12 (.alt 8 (.take 9 (.take 10 (.take 11 (.alt 13 (.take 14 (.done)) .no)))) .no) (.no)))))))))))], ob := [], qs := [23, 46, 105, 107, 122, 124, 171, 173, 190, 192], mt := [(127, "knucklebone/gen.take", 107), (128, "knucklebone/gen.take", 124), (129, "knucklebone/gen.take", 173), (130, "knucklebone/gen.take", 192), (127, "knucklebone/gen.size", 105), (128, "knucklebone/gen.size", 122), (129, "knucklebone/gen.size", 171), (130, "knucklebone/gen.size", 190)] }
@[go_sem] theorem cx_gen_Take_e : cx_gen_Take.gs = none ∧ cx_gen_Take.md = 0 ∧ cx_gen_Take.T = T ∧ cx_gen_Take.E = E ∧ cx_gen_Take.cs = [(23, c_gen_Check), (46, c_gen_of), (105, c_gen_mixKind_size), (107, c_gen_mixKind_take), (122, c_gen_xoshKind_size), (124, c_gen_xoshKind_take), (171, c_gen_pcgKind_size), (173, c_gen_pcgKind_take), (190, c_gen_philoxKind_size), (192, c_gen_philoxKind_take)] ∧ cx_gen_Take.mt = [(127, "knucklebone/gen.take", 107), (128, "knucklebone/gen.take", 124), (129, "knucklebone/gen.take", 173), (130, "knucklebone/gen.take", 192), (127, "knucklebone/gen.size", 105), (128, "knucklebone/gen.size", 122), (129, "knucklebone/gen.size", 171), (130, "knucklebone/gen.size", 190)] ∧ cx_gen_Take.sch = [(9, true, .take 0 (.take 1 (.take 2 (.take 3 (.take 4 (.take 5 (.take 6 (.take 7 (.alt 8 (.take 9 (.take 10 (.take 11 (.alt 12 (.alt 13 (.take 14 (.done)) .no) .no)))) (.alt 12 (.alt 8 (.take 9 (.take 10 (.take 11 (.alt 13 (.take 14 (.done)) .no)))) .no) (.no)))))))))))] ∧ ∀ d, (cx_gen_Take.ob).contains d = false := ⟨rfl, rfl, rfl, rfl, rfl, rfl, rfl, fun _ => rfl⟩
theorem cok_gen_Take : COk Tryz.prog (cx_gen_Take) := cok_of rfl (.cons ok_gen_Check (.cons ok_gen_of (.cons ok_gen_mixKind_size (.cons ok_gen_mixKind_take (.cons ok_gen_xoshKind_size (.cons ok_gen_xoshKind_take (.cons ok_gen_pcgKind_size (.cons ok_gen_pcgKind_take (.cons ok_gen_philoxKind_size (.cons ok_gen_philoxKind_take (.nil))))))))))) (.cons (fun _ => fn1_quiet) (.cons (fun _ => fn1_quiet) (.cons (fun _ => fn1_quiet) (.cons (fun _ => fn2_quiet) (.cons (fun _ => fn1_quiet) (.cons (fun _ => fn2_quiet) (.cons (fun _ => fn1_quiet) (.cons (fun _ => fn2_quiet) (.cons (fun _ => fn1_quiet) (.cons (fun _ => fn2_quiet) (.nil))))))))))) (.nil) rfl (.cons (mtOk_in (inf := Tryz.t127) Tryz.type127 (by kernel_rfl) Tryz.underlying127 (by intro e; exact nofun)) (.cons (mtOk_in (inf := Tryz.t128) Tryz.type128 (by kernel_rfl) Tryz.underlying128 (by intro e; exact nofun)) (.cons (mtOk_in (inf := Tryz.t129) Tryz.type129 (by kernel_rfl) Tryz.underlying129 (by intro e; exact nofun)) (.cons (mtOk_in (inf := Tryz.t130) Tryz.type130 (by kernel_rfl) Tryz.underlying130 (by intro e; exact nofun)) (.cons (mtOk_in (inf := Tryz.t127) Tryz.type127 (by kernel_rfl) Tryz.underlying127 (by intro e; exact nofun)) (.cons (mtOk_in (inf := Tryz.t128) Tryz.type128 (by kernel_rfl) Tryz.underlying128 (by intro e; exact nofun)) (.cons (mtOk_in (inf := Tryz.t129) Tryz.type129 (by kernel_rfl) Tryz.underlying129 (by intro e; exact nofun)) (.cons (mtOk_in (inf := Tryz.t130) Tryz.type130 (by kernel_rfl) Tryz.underlying130 (by intro e; exact nofun)) (.nil)))))))))
set_option maxHeartbeats 4000000 in
theorem ok_gen_Take : Ok Tryz.prog 38 c_gen_Take := by
  refine ok_fn1 cok_gen_Take mixed Tryz.func38 rfl (by kernel_rfl) (by kernel_rfl) rfl ?_
  intro b om hw _
  have hbl := (wf_8 hw).1
  cases b with
  | nil => simp only [go_sem, Tryz.f38, kn1, kn2, kn3, kn4, kn5, kn6, kn7, kn8, kn9, kz1, kz2, kz3, kz4, kz5, kz6, kz7, kz8, kz9, kz0, reduceCtorEq, String.reduceEq, kn0, kq1, kq2, kq3, kq4, Int.toNat_natCast, gtake, gz, x0, d0, h0, k0]
  | cons k l =>
    rw [List.length_cons] at hbl
    by_cases hk : 1 ≤ k ∧ k ≤ 4
    · have e0 : (((l.length + 1 : Nat) : Int) = 0) = False := eq_false (by omega)
      obtain rfl | rfl | rfl | rfl : k = 1 ∨ k = 2 ∨ k = 3 ∨ k = 4 := by omega
      · by_cases hl : l.length < 8
        · have e : gtake (1 :: l) = (gz, 0, 11) := by simp [gtake, gsize, hl]
          have e1 : (((l.length + 1 : Nat) : Int) - 1 < 8) = True := eq_true (by omega)
          simp only [go_sem, Tryz.f38, kn1, kn2, kn3, kn4, kn5, kn6, kn7, kn8, kn9, kz1, kz2, kz3, kz4, kz5, kz6, kz7, kz8, kz9, kz0, reduceCtorEq, String.reduceEq, kn0, kq1, kq2, kq3, kq4, Int.toNat_natCast, c_gen_mixKind_take, c_gen_mixKind_size, e, e0, e1, gz, x0, d0, h0, k0]
          exact by omega
        · have e1 : (((l.length + 1 : Nat) : Int) - 1 < 8) = False := eq_false (by omega)
          have q1 : (l.take 8).length = 8 := by simp; omega
          by_cases hg : gok (g1 (ofb (l.take 8)))
          · have e : gtake (1 :: l) = (g1 (ofb (l.take 8)), 9, 0) := by
              rw [gtake_long (by omega) hl (by omega), if_pos (show  gok (gread 1 (l.take (gsize 1))) from hg)]; rfl
            have hz := gchk_ok hg
            simp only [go_sem, Tryz.f38, kn1, kn2, kn3, kn4, kn5, kn6, kn7, kn8, kn9, kz1, kz2, kz3, kz4, kz5, kz6, kz7, kz8, kz9, kz0, reduceCtorEq, String.reduceEq, kn0, kq1, kq2, kq3, kq4, Int.toNat_natCast, c_gen_mixKind_take, c_gen_mixKind_size, e, e0, e1, q1, hz]
            exact by omega
          · have e : gtake (1 :: l) = (gz, 0, gchk (g1 (ofb (l.take 8)))) := by
              rw [gtake_long (by omega) hl (by omega), if_neg (show ¬ gok (gread 1 (l.take (gsize 1))) from hg)]; rfl
            have hz : (gchk (g1 (ofb (l.take 8))) = 0) = False := eq_false (gchk_no hg)
            simp only [go_sem, Tryz.f38, kn1, kn2, kn3, kn4, kn5, kn6, kn7, kn8, kn9, kz1, kz2, kz3, kz4, kz5, kz6, kz7, kz8, kz9, kz0, reduceCtorEq, String.reduceEq, kn0, kq1, kq2, kq3, kq4, Int.toNat_natCast, c_gen_mixKind_take, c_gen_mixKind_size, e, e0, e1, q1, hz, gz, x0, d0, h0, k0]
            exact by omega
      · by_cases hl : l.length < 32
        · have e : gtake (2 :: l) = (gz, 0, 11) := by simp [gtake, gsize, hl]
          have e1 : (((l.length + 1 : Nat) : Int) - 1 < 32) = True := eq_true (by omega)
          simp only [go_sem, Tryz.f38, kn1, kn2, kn3, kn4, kn5, kn6, kn7, kn8, kn9, kz1, kz2, kz3, kz4, kz5, kz6, kz7, kz8, kz9, kz0, reduceCtorEq, String.reduceEq, kn0, kq1, kq2, kq3, kq4, Int.toNat_natCast, c_gen_xoshKind_take, c_gen_xoshKind_size, e, e0, e1, gz, x0, d0, h0, k0]
          exact by omega
        · have e1 : (((l.length + 1 : Nat) : Int) - 1 < 32) = False := eq_false (by omega)
          have q1 : (l.take 32).length = 32 := by simp; omega
          by_cases hg : gok (g2 (xtake (l.take 32)))
          · have e : gtake (2 :: l) = (g2 (xtake (l.take 32)), 33, 0) := by
              rw [gtake_long (by omega) hl (by omega), if_pos (show  gok (gread 2 (l.take (gsize 2))) from hg)]; rfl
            have hz := gchk_ok hg
            simp only [go_sem, Tryz.f38, kn1, kn2, kn3, kn4, kn5, kn6, kn7, kn8, kn9, kz1, kz2, kz3, kz4, kz5, kz6, kz7, kz8, kz9, kz0, reduceCtorEq, String.reduceEq, kn0, kq1, kq2, kq3, kq4, Int.toNat_natCast, c_gen_xoshKind_take, c_gen_xoshKind_size, e, e0, e1, q1, hz]
            exact by omega
          · have e : gtake (2 :: l) = (gz, 0, gchk (g2 (xtake (l.take 32)))) := by
              rw [gtake_long (by omega) hl (by omega), if_neg (show ¬ gok (gread 2 (l.take (gsize 2))) from hg)]; rfl
            have hz : (gchk (g2 (xtake (l.take 32))) = 0) = False := eq_false (gchk_no hg)
            simp only [go_sem, Tryz.f38, kn1, kn2, kn3, kn4, kn5, kn6, kn7, kn8, kn9, kz1, kz2, kz3, kz4, kz5, kz6, kz7, kz8, kz9, kz0, reduceCtorEq, String.reduceEq, kn0, kq1, kq2, kq3, kq4, Int.toNat_natCast, c_gen_xoshKind_take, c_gen_xoshKind_size, e, e0, e1, q1, hz, gz, x0, d0, h0, k0]
            exact by omega
      · by_cases hl : l.length < 32
        · have e : gtake (3 :: l) = (gz, 0, 11) := by simp [gtake, gsize, hl]
          have e1 : (((l.length + 1 : Nat) : Int) - 1 < 32) = True := eq_true (by omega)
          simp only [go_sem, Tryz.f38, kn1, kn2, kn3, kn4, kn5, kn6, kn7, kn8, kn9, kz1, kz2, kz3, kz4, kz5, kz6, kz7, kz8, kz9, kz0, reduceCtorEq, String.reduceEq, kn0, kq1, kq2, kq3, kq4, Int.toNat_natCast, c_gen_pcgKind_take, c_gen_pcgKind_size, e, e0, e1, gz, x0, d0, h0, k0]
          exact by omega
        · have e1 : (((l.length + 1 : Nat) : Int) - 1 < 32) = False := eq_false (by omega)
          have q1 : (l.take 32).length = 32 := by simp; omega
          by_cases hg : gok (g3 ⟨ofb ((l.take 32).take 16), ofb ((l.take 32).drop 16)⟩)
          · have e : gtake (3 :: l) = (g3 ⟨ofb ((l.take 32).take 16), ofb ((l.take 32).drop 16)⟩, 33, 0) := by
              rw [gtake_long (by omega) hl (by omega), if_pos (show  gok (gread 3 (l.take (gsize 3))) from hg)]; rfl
            have hz := gchk_ok hg
            simp only [go_sem, Tryz.f38, kn1, kn2, kn3, kn4, kn5, kn6, kn7, kn8, kn9, kz1, kz2, kz3, kz4, kz5, kz6, kz7, kz8, kz9, kz0, reduceCtorEq, String.reduceEq, kn0, kq1, kq2, kq3, kq4, Int.toNat_natCast, c_gen_pcgKind_take, c_gen_pcgKind_size, e, e0, e1, q1, hz]
            exact by omega
          · have e : gtake (3 :: l) = (gz, 0, gchk (g3 ⟨ofb ((l.take 32).take 16), ofb ((l.take 32).drop 16)⟩)) := by
              rw [gtake_long (by omega) hl (by omega), if_neg (show ¬ gok (gread 3 (l.take (gsize 3))) from hg)]; rfl
            have hz : (gchk (g3 ⟨ofb ((l.take 32).take 16), ofb ((l.take 32).drop 16)⟩) = 0) = False := eq_false (gchk_no hg)
            simp only [go_sem, Tryz.f38, kn1, kn2, kn3, kn4, kn5, kn6, kn7, kn8, kn9, kz1, kz2, kz3, kz4, kz5, kz6, kz7, kz8, kz9, kz0, reduceCtorEq, String.reduceEq, kn0, kq1, kq2, kq3, kq4, Int.toNat_natCast, c_gen_pcgKind_take, c_gen_pcgKind_size, e, e0, e1, q1, hz, gz, x0, d0, h0, k0]
            exact by omega
      · by_cases hl : l.length < 25
        · have e : gtake (4 :: l) = (gz, 0, 11) := by simp [gtake, gsize, hl]
          have e1 : (((l.length + 1 : Nat) : Int) - 1 < 25) = True := eq_true (by omega)
          simp only [go_sem, Tryz.f38, kn1, kn2, kn3, kn4, kn5, kn6, kn7, kn8, kn9, kz1, kz2, kz3, kz4, kz5, kz6, kz7, kz8, kz9, kz0, reduceCtorEq, String.reduceEq, kn0, kq1, kq2, kq3, kq4, Int.toNat_natCast, c_gen_philoxKind_take, c_gen_philoxKind_size, e, e0, e1, gz, x0, d0, h0, k0]
          exact by omega
        · have e1 : (((l.length + 1 : Nat) : Int) - 1 < 25) = False := eq_false (by omega)
          have q1 : (l.take 25).length = 25 := by simp; omega
          have q2 : (l.take 25).getD 24 0 = l.getD 24 0 := by simp [List.getD_eq_getElem?_getD, List.getElem?_take]
          by_cases hc : 1 < l.getD 24 0
          · have e : gtake (4 :: l) = (gz, 0, 11) := by
              unfold gtake; simp only; rw [if_neg (by omega), if_neg (show ¬ l.length < gsize 4 from hl), if_pos ⟨trivial, hc⟩]
            have q3 : (l.getD 24 0 ≤ 1) = False := eq_false (by omega)
            simp only [go_sem, Tryz.f38, kn1, kn2, kn3, kn4, kn5, kn6, kn7, kn8, kn9, kz1, kz2, kz3, kz4, kz5, kz6, kz7, kz8, kz9, kz0, reduceCtorEq, String.reduceEq, kn0, kq1, kq2, kq3, kq4, Int.toNat_natCast, c_gen_philoxKind_take, c_gen_philoxKind_size, e, e0, e1, q1, q2, q3, gz, x0, d0, h0, k0]
            exact by omega
          have q3 : (l.getD 24 0 ≤ 1) = True := eq_true (by omega)
          by_cases hg : gok (g4 (htake (l.take 25)))
          · have e : gtake (4 :: l) = (g4 (htake (l.take 25)), 26, 0) := by
              rw [gtake_long (by omega) hl (fun h => hc h.2), if_pos (show  gok (gread 4 (l.take (gsize 4))) from hg)]; rfl
            have hz := gchk_ok hg
            simp only [go_sem, Tryz.f38, kn1, kn2, kn3, kn4, kn5, kn6, kn7, kn8, kn9, kz1, kz2, kz3, kz4, kz5, kz6, kz7, kz8, kz9, kz0, reduceCtorEq, String.reduceEq, kn0, kq1, kq2, kq3, kq4, Int.toNat_natCast, c_gen_philoxKind_take, c_gen_philoxKind_size, e, e0, e1, q1, hz, q2, q3]
            exact by omega
          · have e : gtake (4 :: l) = (gz, 0, gchk (g4 (htake (l.take 25)))) := by
              rw [gtake_long (by omega) hl (fun h => hc h.2), if_neg (show ¬ gok (gread 4 (l.take (gsize 4))) from hg)]; rfl
            have hz : (gchk (g4 (htake (l.take 25))) = 0) = False := eq_false (gchk_no hg)
            simp only [go_sem, Tryz.f38, kn1, kn2, kn3, kn4, kn5, kn6, kn7, kn8, kn9, kz1, kz2, kz3, kz4, kz5, kz6, kz7, kz8, kz9, kz0, reduceCtorEq, String.reduceEq, kn0, kq1, kq2, kq3, kq4, Int.toNat_natCast, c_gen_philoxKind_take, c_gen_philoxKind_size, e, e0, e1, q1, hz, q2, q3, gz, x0, d0, h0, k0]
            exact by omega
    · have e : gtake (k :: l) = (gz, 0, 2) := by unfold gtake; simp only; rw [if_pos hk]
      have e2 : genOf (k : Int) = .nili := genOf_no (by omega)
      have e0 : (((l.length + 1 : Nat) : Int) = 0) = False := eq_false (by omega)
      have hb := (wf_8 hw).2 k List.mem_cons_self
      simp only [go_sem, Tryz.f38, kn1, kn2, kn3, kn4, kn5, kn6, kn7, kn8, kn9, kz1, kz2, kz3, kz4, kz5, kz6, kz7, kz8, kz9, kz0, reduceCtorEq, String.reduceEq, kn0, kq1, kq2, kq3, kq4, Int.toNat_natCast, e, e0, e2, gz, x0, d0, h0, k0]
      exact ⟨by omega, by omega⟩
end Go.Proofs.YtggpbjhmpipplaaGreat.I
