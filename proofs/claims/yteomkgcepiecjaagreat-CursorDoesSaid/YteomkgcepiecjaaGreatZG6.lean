/- Texts of the ideal machine, or of plain numbers, one behind the other: Xosh2, Xjump1, Xlin, Xact, Massey1, Massey2, Xjump2, Pcg. -/
import Derived.Test.YteomkgcepiecjaaGreatZG4
import Derived.Test.YteomkgcepiecjaaGreatZG5
import Derived.Test.YteomkgcepiecjaaGreatZG2
import Derived.Test.YteomkgcepiecjaaGreatZG1
import Derived.Test.YteomkgcepiecjaaGreatZG3
import Derived.Test.YteomkgcepiecjaaGreatZM3
import Derived.Test.YteomkgcepiecjaaGreatZG5b
/- xosh: steps, Bits; 07: Jump. -/
namespace Go.Proofs.YteomkgcepiecjaaGreat.I
open Go
open Nat renaming reduceEqDiff → kn1, reduceBEq → kn2, reducePow → kn3, reduceMod → kn4, reduceAdd → kn5, reduceSub → kn6, reduceMul → kn7, reduceDiv → kn8, reduceLeDiff → kn9, reduceLT → kn0, zero_lt_one → kq1, zero_add → kq2, zero_le → kq3, le_refl → kq4
open Int renaming reduceToNat → kz1, reduceAdd → kz2, reduceSub → kz3, reduceMul → kz4, reduceDiv → kz5, reduceMod → kz6, reduceLE → kz7, reduceLT → kz8, reduceNeg → kz9, reduceEq → kz0
set_option maxRecDepth 10000
set_option linter.unusedSimpArgs false
set_option linter.unusedVariables false
def cX (s : X4) : List V := [.n .u64 s.a, .n .u64 s.b, .n .u64 s.c, .n .u64 s.d]
@[go_sem] theorem cX_eq (s : X4) : cX s = [.n .u64 s.a, .n .u64 s.b, .n .u64 s.c, .n .u64 s.d] := rfl
noncomputable def c_xosh_steps_1 : Cn
  | [.obj j 0], om, K => @so _ (om j) ⟨fun cs => match cs with
    | [.obj id 0] => @so _ (om id) ⟨fun ds => @so _ (tX.dec (.agg ds)) ⟨fun s => s.wf ∧ K.k (vX s) (om.put id (cX (xstep s)))⟩⟩
    | _ => False⟩
  | _, _, _ => False
attribute [go_sem] c_xosh_steps_1.eq_1
theorem steps_1_inv {j : Nat} {om : Om} {K : V → Om → Prop} (h : @c_xosh_steps_1 [.obj j 0] om ⟨K⟩) : ∃ id s, om j = some [.obj id 0] ∧ om id = some (cX s) ∧ s.wf ∧ K (vX s) (om.put id (cX (xstep s))) := by
  unfold c_xosh_steps_1 at h
  obtain ⟨cs, h1, h⟩ := so_inv h
  split at h <;> first | exact h.elim | skip
  obtain ⟨ds, h2, h⟩ := so_inv h
  obtain ⟨s, h3, h4, h5⟩ := so_inv h
  have e := tX.h2 _ _ h3
  rw [tX_enc] at e
  injection e with e
  subst e
  exact ⟨_, s, h1, h2, h4, h5⟩
theorem c_xosh_steps_1_mono : Mono c_xosh_steps_1 := by
  intro args om K K' hK h
  unfold c_xosh_steps_1 at h ⊢
  split at h
  · refine mono_so (fun cs h => ?_) h
    split at h
    · exact mono_so (fun ds h => mono_so (fun s h => ⟨h.1, hK _ _ h.2⟩) h) h
    · exact h.elim
  · exact h.elim
noncomputable def cx_xosh_steps_1 : Cx := { T := T, E := E, cs := [(183, c_xosh_Step)], sch := [(2, false, .take 0 (.take 1 (.alt 2 (.take 3 (.alt 4 (.done) .no)) .no)))], ob := [], qs := [183] }
@[go_sem] theorem cx_xosh_steps_1_e : cx_xosh_steps_1.gs = none ∧ cx_xosh_steps_1.md = 0 ∧ cx_xosh_steps_1.T = T ∧ cx_xosh_steps_1.E = E ∧ cx_xosh_steps_1.cs = [(183, c_xosh_Step)] ∧ cx_xosh_steps_1.sch = [(2, false, .take 0 (.take 1 (.alt 2 (.take 3 (.alt 4 (.done) .no)) .no)))] ∧ ∀ d, (cx_xosh_steps_1.ob).contains d = false := ⟨rfl, rfl, rfl, rfl, rfl, rfl, fun _ => rfl⟩
theorem cok_xosh_steps_1 : COk Tryz.prog (cx_xosh_steps_1) := cok_of rfl (.cons ok_xosh_Step (.nil)) (.cons (fun _ => fn1_quiet) (.nil)) (.nil)
theorem ok_xosh_steps_1 : Ok Tryz.prog 214 c_xosh_steps_1 := by
  refine ok_of_body1 cok_xosh_steps_1 mixed Tryz.func214 rfl (by kernel_rfl) (by kernel_rfl) c_xosh_steps_1_mono fun args om Q hw h => ?_
  have sh : ∃ j, args = [.obj j 0] := by
    unfold c_xosh_steps_1 at h
    split at h
    · exact ⟨_, rfl⟩
    · exact h.elim
  obtain ⟨j, rfl⟩ := sh
  obtain ⟨id, s, h1, h2, h3, h4⟩ := steps_1_inv h
  simp only [go_sem, Tryz.f214, kn1, kn2, kn3, kn4, kn5, kn6, kn7, kn8, kn9, kz1, kz2, kz3, kz4, kz5, kz6, kz7, kz8, kz9, kz0, reduceCtorEq, String.reduceEq, h1, h2]
  exact ⟨by omega, by omega, fun _ => ⟨by omega, by omega, by omega, h4⟩⟩
noncomputable def c_xosh_steps : Cn
  | [.obj id 0], om, K => ∀ j, om j = none → K.k (.fn (.func 214) [] [.obj j 0]) (om.put j [.obj id 0])
  | _, _, _ => False
attribute [go_sem] c_xosh_steps.eq_1
theorem c_xosh_steps_mono : Mono c_xosh_steps := by
  intro args om K K' hK h
  unfold c_xosh_steps at h ⊢
  split at h
  · exact fun j hj => hK _ _ (h j hj)
  · exact h.elim
theorem quiet_xosh_steps : Quiet c_xosh_steps := by
  intro args om K h
  unfold c_xosh_steps at h ⊢
  split at h
  · exact fun j hj => ⟨.put hj (.refl _), h j hj⟩
  · exact h.elim
noncomputable def cx_xosh_steps : Cx := { T := T, E := E, cs := [], sch := [], ob := [1], qs := [] }
@[go_sem] theorem cx_xosh_steps_e : cx_xosh_steps.gs = none ∧ cx_xosh_steps.md = 0 ∧ cx_xosh_steps.T = T ∧ cx_xosh_steps.E = E ∧ cx_xosh_steps.cs = [] ∧ cx_xosh_steps.ob = [1] := ⟨rfl, rfl, rfl, rfl, rfl, rfl⟩
theorem cok_xosh_steps : COk Tryz.prog (cx_xosh_steps) := cok_of rfl (.nil) (.nil) (.nil)
theorem ok_xosh_steps : Ok Tryz.prog 205 c_xosh_steps := by
  refine ok_of_body1 cok_xosh_steps mixed Tryz.func205 rfl (by kernel_rfl) (by kernel_rfl) c_xosh_steps_mono fun args om Q hw h => ?_
  unfold c_xosh_steps at h
  split at h <;> first | exact h.elim | skip
  rename_i om _ _ _ id
  simp only [go_sem, Tryz.f205, kn1, kn2, kn3, kn4, kn5, kn6, kn7, kn8, kn9, kz1, kz2, kz3, kz4, kz5, kz6, kz7, kz8, kz9, kz0, reduceCtorEq, String.reduceEq]
  exact h
def xst (s : X4) : Nat → X4
  | 0 => s
  | n + 1 => xstep (xst s n)
theorem xst_wf {s : X4} (h : s.wf) : ∀ n, (xst s n).wf
  | 0 => h
  | n + 1 => xstep_wf (xst_wf h n)
def xbits (s : X4) : Nat → List Bool
  | 0 => []
  | n + 1 => xbits s n ++ [decide ((xst s n).a &&& 1 = 1)]
theorem xbits_len (s : X4) : ∀ n, (xbits s n).length = n
  | 0 => rfl
  | n + 1 => by rw [xbits, List.length_append, xbits_len s n]; rfl
theorem om_swap (om : Om) {i j : Nat} (h : ¬ j = i) (a b c : List V) : ((om.put i a).put j b).put i c = (om.put i c).put j b := by
  funext k; simp only [Om.put]
  by_cases e1 : k = j
  · subst e1; simp [h]
  · by_cases e2 : k = i
    · subst e2; simp [e1]
    · simp [e1, e2]
@[go_sem] noncomputable def c_xosh_Bits : Cn := fn2i tX tZ (fun _ _ => True) (fun _ n => n < 0 ∨ 2048 < n) (fun _ _ => .tup [.sl [], .z 1]) fun s n => .tup [.sl (els V.b (xbits s n.toNat)), .z 0]
noncomputable def cx_xosh_Bits : Cx := { T := T, E := E, cs := [(205, c_xosh_steps), (214, c_xosh_steps_1)], sch := [], ob := [2], qs := [205] }
@[go_sem] theorem cx_xosh_Bits_e : cx_xosh_Bits.gs = none ∧ cx_xosh_Bits.md = 0 ∧ cx_xosh_Bits.T = T ∧ cx_xosh_Bits.E = E ∧ cx_xosh_Bits.cs = [(205, c_xosh_steps), (214, c_xosh_steps_1)] ∧ cx_xosh_Bits.ob = [2] := ⟨rfl, rfl, rfl, rfl, rfl, rfl⟩
theorem cok_xosh_Bits : COk Tryz.prog (cx_xosh_Bits) := cok_of rfl (.cons ok_xosh_steps (.cons ok_xosh_steps_1 (.nil))) (.cons (fun _ => quiet_xosh_steps) (.cons (fun h => absurd h (by decide)) (.nil))) (.nil)
set_option maxHeartbeats 2000000 in
theorem ok_xosh_Bits : Ok Tryz.prog 197 c_xosh_Bits := by
  refine ok_fn2i cok_xosh_Bits mixed Tryz.func197 rfl (by kernel_rfl) (by kernel_rfl) rfl ?_
  intro s n om hw _
  have hn : i64ok n := hw.2.1
  unfold i64ok at hn
  have hs := wf_x hw
  simp (config := {contextual := true}) only [go_sem, Tryz.f197, kn1, kn2, kn3, kn4, kn5, kn6, kn7, kn8, kn9, kz1, kz2, kz3, kz4, kz5, kz6, kz7, kz8, kz9, kz0, reduceCtorEq, String.reduceEq, new_iff, and_imp]
  intro id hid
  refine ⟨fun h => ?_, fun h => ⟨fun h' => ?_, fun h' j hj1 hj2 hj => ?_⟩⟩
  · exact .put hid (.refl _)
  · exact .put hid (.refl _)
  refine ⟨Nat, fun k => ⟨[.u, .u, .u, .u, .nils, .z 0, .row 25 k k, .fn (.func 214) [] [.obj j 0], .u, .u, .u, .u, .u, .u, .u, .z n, .z k, .u, .u, .u, .u, .u, .u, .u, .u, .u, .u, .u], [(25, ⟨1, false, els V.b (xbits s k), false⟩)], (om.put id (cX (xst s k))).put j [.obj id 0]⟩, fun k => k ≤ n.toNat, fun k => n.toNat - k, ⟨0, by omega, ?_⟩, ?_⟩
  · simp only [go_sem, kn1, kn2, kn3, kn4, kn5, kn6, kn7, kn8, kn9, kz1, kz2, kz3, kz4, kz5, kz6, kz7, kz8, kz9, kz0, reduceCtorEq, String.reduceEq, xst, xbits]
  · intro k hk
    have hl := xbits_len s k
    have hk' : k ≤ 2048 := by omega
    simp only [go_sem, kn1, kn2, kn3, kn4, kn5, kn6, kn7, kn8, kn9, kz1, kz2, kz3, kz4, kz5, kz6, kz7, kz8, kz9, kz0, reduceCtorEq, String.reduceEq, c_xosh_steps_1.eq_1, hj1, hj2]
    refine ⟨fun g => ⟨xst_wf hs k, fun _ => ⟨by omega, by omega, by omega, k + 1, by omega, ⟨⟨rfl, by omega⟩, rfl, ?_⟩, by omega⟩⟩, fun g => ⟨hl, .put hj (.put hid (.refl _)), ?_⟩⟩
    · rw [om_swap _ hj1]; exact .refl _
    · rw [List.take_of_length_le (by omega), show k = n.toNat by omega, if_neg (by omega)]
end Go.Proofs.YteomkgcepiecjaaGreat.I
/- xjump: At. -/
namespace Go.Proofs.YteomkgcepiecjaaGreat.I
open Go
open Nat renaming reduceEqDiff → kn1, reduceBEq → kn2, reducePow → kn3, reduceMod → kn4, reduceAdd → kn5, reduceSub → kn6, reduceMul → kn7, reduceDiv → kn8, reduceLeDiff → kn9, reduceLT → kn0, zero_lt_one → kq1, zero_add → kq2, zero_le → kq3, le_refl → kq4
open Int renaming reduceToNat → kz1, reduceAdd → kz2, reduceSub → kz3, reduceMul → kz4, reduceDiv → kz5, reduceMod → kz6, reduceLE → kz7, reduceLT → kz8, reduceNeg → kz9, reduceEq → kz0
set_option maxRecDepth 10000
set_option linter.unusedSimpArgs false
set_option linter.unusedVariables false
def xat (p : Nat) (s : X4) : Nat → X4
  | 0 => x0
  | n + 1 => if p.testBit n = true then xadd (xat p s n) (xst s n) else xat p s n
theorem tb_one' {n k : Nat} : tb n k = 1 ↔ n.testBit k = true := by
  unfold tb
  by_cases e : n.testBit k = true <;> simp [e]
@[go_sem] noncomputable def c_xjump_At : Cn := fn2 tU tX (fun xs _ => xs.length ≤ 262144) fun xs s => vX (xat (pv xs) s (bl (pv xs)))
noncomputable def cx_xjump_At : Cx := { T := T, E := E, cs := [(183, c_xosh_Step), (188, c_gfp_Deg), (189, c_gfp_Bit), (190, c_xosh_Add)], sch := [], ob := [], qs := [183, 188, 189, 190] }
@[go_sem] theorem cx_xjump_At_e : cx_xjump_At.gs = none ∧ cx_xjump_At.md = 0 ∧ cx_xjump_At.T = T ∧ cx_xjump_At.E = E ∧ cx_xjump_At.cs = [(183, c_xosh_Step), (188, c_gfp_Deg), (189, c_gfp_Bit), (190, c_xosh_Add)] ∧ ∀ d, (cx_xjump_At.ob).contains d = false := ⟨rfl, rfl, rfl, rfl, rfl, fun _ => rfl⟩
theorem cok_xjump_At : COk Tryz.prog (cx_xjump_At) := cok_of rfl (.cons ok_xosh_Step (.cons ok_gfp_Deg (.cons ok_gfp_Bit (.cons ok_xosh_Add (.nil))))) (.cons (fun _ => fn1_quiet) (.cons (fun _ => fn1_quiet) (.cons (fun _ => fn2_quiet) (.cons (fun _ => fn2_quiet) (.nil))))) (.nil)
set_option maxHeartbeats 2000000 in
theorem ok_xjump_At : Ok Tryz.prog 185 c_xjump_At := by
  refine ok_fn2 cok_xjump_At mixed Tryz.func185 rfl (by kernel_rfl) (by kernel_rfl) rfl ?_
  intro xs s om hw hl
  have hx := (wf_u ⟨hw.1, trivial⟩).2
  have hb := bl_pv hx
  obtain ⟨p, hp⟩ : ∃ p, pv xs = p := ⟨_, rfl⟩
  rw [hp] at hb
  simp only [go_sem, Tryz.f185, kn1, kn2, kn3, kn4, kn5, kn6, kn7, kn8, kn9, kz1, kz2, kz3, kz4, kz5, kz6, kz7, kz8, kz9, kz0, reduceCtorEq, String.reduceEq, hp]
  refine ⟨by omega, fun _ => ?_⟩
  refine ⟨Nat, fun k => ⟨[.sl (els (V.n .u64) xs), .u, .u, .ref 3 1 4 0 0, .ref 4 1 4 0 0, .ref 5 1 4 0 0, .z ((bl p : Int) - 1), .z k, .u, .u, .u, .u, .u, .u, .u, .u, .u, .u, .u, .u, .u, .u, .u, .u, .u], [(5, ⟨4, true, [vX (xat p s k)], false⟩), (4, ⟨4, true, [vX x0], false⟩), (3, ⟨4, true, [vX (xst s k)], false⟩)], om⟩, fun k => k ≤ bl p, fun k => bl p - k, ⟨0, Nat.zero_le _, ?_⟩, ?_⟩
  · simp only [go_sem, kn1, kn2, kn3, kn4, kn5, kn6, kn7, kn8, kn9, kz1, kz2, kz3, kz4, kz5, kz6, kz7, kz8, kz9, kz0, reduceCtorEq, String.reduceEq, xat, xst, x0]
  · intro k hk
    have ht := tb_one' (n := p) (k := k)
    have s1 : p.testBit k = true → xat p s (k + 1) = xadd (xat p s k) (xst s k) := fun h => by rw [xat, if_pos h]
    have s2 : ¬ p.testBit k = true → xat p s (k + 1) = xat p s k := fun h => by rw [xat, if_neg h]
    simp only [go_sem, kn1, kn2, kn3, kn4, kn5, kn6, kn7, kn8, kn9, kz1, kz2, kz3, kz4, kz5, kz6, kz7, kz8, kz9, kz0, reduceCtorEq, String.reduceEq, hp]
    refine ⟨fun h => ?_, fun h _ => ⟨fun g => ⟨by omega, by omega, fun _ => ⟨by omega, by omega, fun _ => ⟨by omega, by omega, k + 1, by omega, ⟨by omega, ?_, rfl, rfl, rfl, rfl⟩, by omega⟩⟩⟩, fun g => ⟨by omega, fun _ => ⟨by omega, by omega, k + 1, by omega, ⟨by omega, ?_, rfl, rfl, rfl, rfl⟩, by omega⟩⟩⟩⟩
    · rw [show k = bl p by omega]
      exact ⟨by omega, by omega, by omega, rfl, rfl, rfl, rfl⟩
    · rw [s1 (ht.1 g)]; exact ⟨rfl, rfl, rfl, rfl⟩
    · rw [s2 (fun e => g (ht.2 e))]; exact ⟨rfl, rfl, rfl, rfl⟩
end Go.Proofs.YteomkgcepiecjaaGreat.I
/- Steps are linear; polynomials act on states. -/
namespace Go.Proofs.YteomkgcepiecjaaGreat.I
open Go
open Nat renaming reduceEqDiff → kn1, reduceBEq → kn2, reducePow → kn3, reduceMod → kn4, reduceAdd → kn5, reduceSub → kn6, reduceMul → kn7, reduceDiv → kn8, reduceLeDiff → kn9, reduceLT → kn0, zero_lt_one → kq1, zero_add → kq2, zero_le → kq3, le_refl → kq4
open Int renaming reduceToNat → kz1, reduceAdd → kz2, reduceSub → kz3, reduceMul → kz4, reduceDiv → kz5, reduceMod → kz6, reduceLE → kz7, reduceLT → kz8, reduceNeg → kz9, reduceEq → kz0
set_option linter.unusedSimpArgs false
set_option linter.unusedVariables false
theorem shl_mod_xor (x y k n : Nat) : ((x ^^^ y) <<< k) % 2 ^ n = (x <<< k) % 2 ^ n ^^^ (y <<< k) % 2 ^ n := by
  rw [Nat.shiftLeft_xor_distrib, Nat.xor_mod_two_pow]
theorem or_xor {a b : Nat} (h : a &&& b = 0) : a ||| b = a ^^^ b := by
  apply Nat.eq_of_testBit_eq
  intro i
  have := congrArg (fun n => n.testBit i) h
  simp only [Nat.testBit_and, Nat.zero_testBit] at this
  rw [Nat.testBit_or, Nat.testBit_xor]
  cases ha : a.testBit i <;> cases hb : b.testBit i <;> simp_all
theorem rot_xor' {x : Nat} (h : x < 18446744073709551616) : rot x = (x <<< 45) % 18446744073709551616 ^^^ x >>> 19 := by
  unfold rot
  refine or_xor ?_
  apply Nat.eq_of_testBit_eq
  intro i
  rw [show (18446744073709551616 : Nat) = 2 ^ 64 from rfl, Nat.testBit_and, Nat.testBit_mod_two_pow, Nat.testBit_shiftLeft, Nat.testBit_shiftRight, Nat.zero_testBit]
  by_cases h1 : 45 ≤ i
  · have : x.testBit (19 + i) = false := Nat.testBit_lt_two_pow (Nat.lt_of_lt_of_le h (Nat.pow_le_pow_right (n := 2) (i := 64) (by omega) (by omega)))
    simp [this]
  · simp [h1]
theorem rot_xor {x y : Nat} (hx : x < 18446744073709551616) (hy : y < 18446744073709551616) : rot (x ^^^ y) = rot x ^^^ rot y := by
  rw [rot_xor' hx, rot_xor' hy, rot_xor' (xor_lt hx hy), show (18446744073709551616 : Nat) = 2 ^ 64 from rfl, shl_mod_xor, Nat.shiftRight_xor_distrib]
  generalize (x <<< 45) % 2 ^ 64 = a; generalize (y <<< 45) % 2 ^ 64 = b; generalize x >>> 19 = c; generalize y >>> 19 = d
  rw [Nat.xor_assoc, Nat.xor_assoc, xor_left_comm b c d]
theorem xadd_wf {s t : X4} (h : s.wf) (g : t.wf) : (xadd s t).wf := ⟨xor_lt h.1 g.1, xor_lt h.2.1 g.2.1, xor_lt h.2.2.1 g.2.2.1, xor_lt h.2.2.2 g.2.2.2⟩
theorem x4_ext {s t : X4} (h1 : s.a = t.a) (h2 : s.b = t.b) (h3 : s.c = t.c) (h4 : s.d = t.d) : s = t := by cases s; cases t; simp_all
theorem xor4 (a b c d : Nat) : (a ^^^ b) ^^^ (c ^^^ d) = (a ^^^ c) ^^^ (b ^^^ d) := by
  rw [Nat.xor_assoc, Nat.xor_assoc, xor_left_comm b c d]
theorem xstep_add {s t : X4} (h : s.wf) (g : t.wf) : xstep (xadd s t) = xadd (xstep s) (xstep t) := by
  refine x4_ext ?_ ?_ ?_ ?_
  · show (s.a ^^^ t.a) ^^^ ((s.d ^^^ t.d) ^^^ (s.b ^^^ t.b)) = (s.a ^^^ (s.d ^^^ s.b)) ^^^ (t.a ^^^ (t.d ^^^ t.b))
    rw [xor4 s.d t.d, xor4 s.a t.a]
  · show (s.b ^^^ t.b) ^^^ ((s.c ^^^ t.c) ^^^ (s.a ^^^ t.a)) = (s.b ^^^ (s.c ^^^ s.a)) ^^^ (t.b ^^^ (t.c ^^^ t.a))
    rw [xor4 s.c t.c, xor4 s.b t.b]
  · show ((s.c ^^^ t.c) ^^^ (s.a ^^^ t.a)) ^^^ (((s.b ^^^ t.b) <<< 17) % 2 ^ 64) = ((s.c ^^^ s.a) ^^^ ((s.b <<< 17) % 2 ^ 64)) ^^^ ((t.c ^^^ t.a) ^^^ ((t.b <<< 17) % 2 ^ 64))
    rw [shl_mod_xor, xor4 s.c t.c, xor4 (s.c ^^^ s.a)]
  · show rot ((s.d ^^^ t.d) ^^^ (s.b ^^^ t.b)) = rot (s.d ^^^ s.b) ^^^ rot (t.d ^^^ t.b)
    rw [xor4, rot_xor h.d_xor_b g.d_xor_b]
theorem xadd_comm (s t : X4) : xadd s t = xadd t s := x4_ext (Nat.xor_comm _ _) (Nat.xor_comm _ _) (Nat.xor_comm _ _) (Nat.xor_comm _ _)
theorem xadd_assoc (s t w : X4) : xadd (xadd s t) w = xadd s (xadd t w) := x4_ext (Nat.xor_assoc _ _ _) (Nat.xor_assoc _ _ _) (Nat.xor_assoc _ _ _) (Nat.xor_assoc _ _ _)
theorem xadd_zero (s : X4) : xadd s x0 = s := x4_ext (Nat.xor_zero _) (Nat.xor_zero _) (Nat.xor_zero _) (Nat.xor_zero _)
theorem zero_xadd (s : X4) : xadd x0 s = s := by rw [xadd_comm, xadd_zero]
theorem xadd_self (s : X4) : xadd s s = x0 := x4_ext (Nat.xor_self _) (Nat.xor_self _) (Nat.xor_self _) (Nat.xor_self _)
theorem xadd4 (a b c d : X4) : xadd (xadd a b) (xadd c d) = xadd (xadd a c) (xadd b d) := x4_ext (xor4 _ _ _ _) (xor4 _ _ _ _) (xor4 _ _ _ _) (xor4 _ _ _ _)
theorem x0_wf : x0.wf := ⟨by decide, by decide, by decide, by decide⟩
theorem xst_step (s : X4) : ∀ n, xst (xstep s) n = xstep (xst s n)
  | 0 => rfl
  | n + 1 => by rw [xst, xst_step s n]; rfl
theorem xst_xst (s : X4) (n : Nat) : ∀ m, xst (xst s n) m = xst s (n + m)
  | 0 => rfl
  | m + 1 => by rw [xst, xst_xst s n m]; rfl
theorem xstep_zero : xstep x0 = x0 := by decide
theorem xat_wf (p : Nat) {s : X4} (h : s.wf) : ∀ n, (xat p s n).wf
  | 0 => x0_wf
  | n + 1 => by
    rw [xat]; split
    · exact xadd_wf (xat_wf p h n) (xst_wf h n)
    · exact xat_wf p h n
theorem xat_step (p : Nat) {s : X4} (h : s.wf) : ∀ n, xat p (xstep s) n = xstep (xat p s n)
  | 0 => xstep_zero.symm
  | n + 1 => by
    rw [xat, xat, xat_step p h n, xst_step]
    split
    · rw [xstep_add (xat_wf p h n) (xst_wf h n)]
    · rfl
theorem xat_xor (p q : Nat) (s : X4) : ∀ n, xat (p ^^^ q) s n = xadd (xat p s n) (xat q s n)
  | 0 => (xadd_zero x0).symm
  | n + 1 => by
    rw [xat, xat, xat, xat_xor p q s n, Nat.testBit_xor]
    cases hp : p.testBit n <;> cases hq : q.testBit n <;> simp only [Bool.xor_false, Bool.xor_true, Bool.not_false, Bool.not_true, if_true, Bool.false_eq_true, if_false, Bool.bne_false, Bool.bne_true, bne_self_eq_false]
    · rw [xadd_assoc]
    · rw [xadd_comm (xat p s n), xadd_assoc, xadd_comm (xat q s n), xadd_assoc, xadd_comm (xst s n)]
    · rw [xadd4, xadd_self, xadd_zero]
theorem xat_more {p : Nat} (s : X4) {n : Nat} (h : bl p ≤ n) : ∀ k, xat p s (n + k) = xat p s n
  | 0 => rfl
  | k + 1 => by
    have : p.testBit (n + k) = false := Nat.testBit_lt_two_pow (bl_lt.1 (by omega))
    rw [← Nat.add_assoc, xat, if_neg (by rw [this]; decide), xat_more s h k]
end Go.Proofs.YteomkgcepiecjaaGreat.I
/- Polynomials act on states; the rule acts as 0 on each; it is the least one of the bits. -/
namespace Go.Proofs.YteomkgcepiecjaaGreat.I
open Go
open Nat renaming reduceEqDiff → kn1, reduceBEq → kn2, reducePow → kn3, reduceMod → kn4, reduceAdd → kn5, reduceSub → kn6, reduceMul → kn7, reduceDiv → kn8, reduceLeDiff → kn9, reduceLT → kn0, zero_lt_one → kq1, zero_add → kq2, zero_le → kq3, le_refl → kq4
open Int renaming reduceToNat → kz1, reduceAdd → kz2, reduceSub → kz3, reduceMul → kz4, reduceDiv → kz5, reduceMod → kz6, reduceLE → kz7, reduceLT → kz8, reduceNeg → kz9, reduceEq → kz0
set_option linter.unusedSimpArgs false
set_option linter.unusedVariables false
def act (p : Nat) (s : X4) : X4 := xat p s (bl p)
theorem act_of {p n : Nat} (h : bl p ≤ n) (s : X4) : xat p s n = act p s := by
  have := xat_more s (Nat.le_refl (bl p)) (n - bl p)
  rw [show bl p + (n - bl p) = n by omega] at this
  exact this
theorem act_zero (s : X4) : act 0 s = x0 := rfl
theorem act_xor (p q : Nat) (s : X4) : act (p ^^^ q) s = xadd (act p s) (act q s) := by
  have h := bl_xor_le p q
  rw [← act_of (n := max (bl p) (bl q)) h, xat_xor, act_of (by omega), act_of (by omega)]
theorem xat_two (p : Nat) (s : X4) : ∀ n, xat (2 * p) s (n + 1) = xat p (xstep s) n
  | 0 => by
    show (if (2 * p).testBit 0 = true then _ else xat (2 * p) s 0) = _
    rw [tb20]; rfl
  | n + 1 => by
    rw [xat, xat_two p s n, tb2, xat, xst_step]; rfl
theorem act_two (p : Nat) (s : X4) : act (2 * p) s = act p (xstep s) := by
  by_cases h : p = 0
  · subst h; rfl
  · rw [act, bl_two_mul h, xat_two]; rfl
theorem act_one (s : X4) : act 1 s = s := by
  rw [act, show bl 1 = 1 by decide, xat, if_pos (by decide)]; exact zero_xadd s
theorem act_wf (p : Nat) {s : X4} (h : s.wf) : (act p s).wf := xat_wf p h _
theorem act_step (p : Nat) {s : X4} (h : s.wf) : act p (xstep s) = xstep (act p s) := xat_step p h _
theorem xst_zero : ∀ n, xst x0 n = x0
  | 0 => rfl
  | n + 1 => by rw [xst, xst_zero n, xstep_zero]
theorem act_x0 (p : Nat) : act p x0 = x0 := by
  have : ∀ n, xat p x0 n = x0 := fun n => by
    induction n with
    | zero => rfl
    | succ n ih => rw [xat, ih, xst_zero, xadd_zero]; split <;> rfl
  exact this _
theorem act_cm (p q : Nat) {s : X4} (h : s.wf) : act (cm p q) s = act p (act q s) := by
  refine bitsInd (p := fun p => ∀ s : X4, s.wf → act (cm p q) s = act p (act q s)) ?_ ?_ ?_ p s h
  · intro s h; rw [cm_zero_left, act_zero, act_zero]
  · intro a ih s h
    rw [cm_two_left, act_two, act_two, ih _ (xstep_wf h), act_step q h]
  · intro a ih s h
    rw [cm_odd_left, act_xor, act_two, ih _ (xstep_wf h), act_step q h, odd_xor, act_xor, act_one, act_two]
theorem act_pow (n : Nat) : ∀ s : X4, act (2 ^ n) s = xst s n := by
  induction n with
  | zero => intro s; rw [Nat.pow_zero, act_one]; rfl
  | succ n ih => intro s; rw [Nat.pow_succ, Nat.mul_comm, act_two, ih, xst_step]; rfl
theorem cpw_two (n : Nat) : cpw 2 n = 2 ^ n := by
  induction n with
  | zero => rfl
  | succ n ih => rw [cpw, ih, cm_comm, show (2 : Nat) = 2 * 1 from rfl, cm_two_left, cm_one_left]; rw [Nat.mul_one, Nat.pow_succ, Nat.mul_comm]
def x1 : X4 := ⟨1, 0, 0, 0⟩
theorem x1_wf : x1.wf := ⟨by decide, by decide, by decide, by decide⟩
theorem RP_ne : RP ≠ 0 := by decide +kernel
theorem RP_x1 : act RP x1 = x0 := by
  rw [← act_of (n := 257) (by rw [bl_RP]; omega)]
  decide +kernel
theorem x1_faith {q : Nat} {s : X4} (hs : s.wf) (h0 : s ≠ x0) (hR : act RP s = x0) (h : act q s = x0) : dv RP q := by
  refine Classical.byContradiction fun hd => h0 ?_
  have g : gd q RP = 1 := by
    rcases RP_irr.2 _ (gd_dv_right q RP) with e | e
    · exact e
    · exact absurd (e ▸ gd_dv_left q RP) hd
  obtain ⟨a, b, e⟩ := gd_bezout q RP
  rw [g] at e
  rw [← act_one s, e, act_xor, act_cm _ _ hs, act_cm _ _ hs, h, hR, act_x0, act_x0, xadd_zero]
theorem x1_same {p q : Nat} {s : X4} (hs : s.wf) (h0 : s ≠ x0) (hR : act RP s = x0) (h : act p s = act q s) : cg RP p q := by
  refine x1_faith hs h0 hR ?_
  rw [act_xor, h, xadd_self]
def pk (s : X4) : Nat := ((s.d * 18446744073709551616 + s.c) * 18446744073709551616 + s.b) * 18446744073709551616 + s.a
theorem pk_lt {s : X4} (h : s.wf) : pk s < 115792089237316195423570985008687907853269984665640564039457584007913129639936 := by
  obtain ⟨h1, h2, h3, h4⟩ := h
  unfold pk; omega
theorem pk_inj {s t : X4} (h : s.wf) (g : t.wf) (e : pk s = pk t) : s = t := by
  obtain ⟨h1, h2, h3, h4⟩ := h
  obtain ⟨g1, g2, g3, g4⟩ := g
  unfold pk at e
  refine x4_ext ?_ ?_ ?_ ?_ <;> omega
theorem act_onto {s : X4} (h : s.wf) : ∃ p, act p x1 = s := by
  obtain ⟨N, hN⟩ : ∃ N : Nat, (115792089237316195423570985008687907853269984665640564039457584007913129639936 : Nat) = N := ⟨_, rfl⟩
  have small : ∀ p, p < N → bl p < bl RP := fun p hp => by
    rw [bl_RP]
    refine Nat.lt_succ_of_le (bl_lt.2 ?_)
    rw [show (2 : Nat) ^ 256 = 115792089237316195423570985008687907853269984665640564039457584007913129639936 from rfl, hN]; exact hp
  have pm : ((List.range N).map fun p => pk (act p x1)).Perm (List.range N) := by
    refine perm_of ?_ (fun y hy => ?_) (by simp)
    · rw [List.nodup_iff_pairwise_ne, List.pairwise_map]
      refine List.Pairwise.imp_of_mem ?_ (List.nodup_iff_pairwise_ne.1 List.nodup_range)
      intro p q hp hq hne e
      rw [List.mem_range] at hp hq
      exact hne (cg_small (x1_same x1_wf (by decide) RP_x1 (pk_inj (act_wf p x1_wf) (act_wf q x1_wf) e)) (small p hp) (small q hq))
    · obtain ⟨p, hp, rfl⟩ := List.mem_map.1 hy
      rw [List.mem_range, ← hN]; exact pk_lt (act_wf p x1_wf)
  have : pk s ∈ List.range N := by rw [List.mem_range, ← hN]; exact pk_lt h
  obtain ⟨p, _, e⟩ := List.mem_map.1 (pm.mem_iff.2 this)
  exact ⟨p, pk_inj (act_wf p x1_wf) h e⟩
theorem act_RP {s : X4} (h : s.wf) : act RP s = x0 := by
  obtain ⟨p, rfl⟩ := act_onto h
  rw [← act_cm _ _ x1_wf, cm_comm, act_cm _ _ x1_wf, RP_x1, act_x0]
theorem act_same {p q : Nat} {s : X4} (hs : s.wf) (h : cg RP p q) : act p s = act q s := by
  obtain ⟨k, hk⟩ := h
  have e : p = cm k RP ^^^ q := (xor_eq.1 hk)
  rw [e, act_xor, act_cm _ _ hs, act_RP hs, act_x0, zero_xadd]
theorem act_iff {p q : Nat} {s : X4} (hs : s.wf) (h0 : s ≠ x0) : act p s = act q s ↔ cg RP p q :=
  ⟨x1_same hs h0 (act_RP hs), act_same hs⟩
theorem act_rm (p : Nat) {s : X4} (hs : s.wf) : act (rm p RP) s = act p s := act_same hs (cg_rm _ RP_ne)
theorem act_pwr (n : Nat) {s : X4} (hs : s.wf) : act (pwr 2 RP n) s = xst s n := by
  rw [pwr_cpw 2 RP_ne, act_rm _ hs, cpw_two, act_pow]
theorem xbits_get (s : X4) : ∀ {n k : Nat}, k < n → (xbits s n).getD k false = decide ((xst s k).a &&& 1 = 1)
  | n + 1, k, h => by
    rw [xbits, List.getD_eq_getElem?_getD, List.getElem?_append]
    rw [xbits_len]
    split
    · rename_i g; rw [← List.getD_eq_getElem?_getD, xbits_get s g]
    · rw [show k = n by omega, Nat.sub_self]; rfl
theorem low_bit (x : Nat) : decide (x &&& 1 = 1) = x.testBit 0 := by
  rw [Nat.testBit_zero, Nat.and_one_is_mod]
theorem od_xbits (p : Nat) (s : X4) {n i d : Nat} (h : i + d < n) : od p (xbits s n) i d = (xat p (xst s i) (d + 1)).a.testBit 0 := by
  have key : ∀ m, i + m ≤ n → px m (fun k => p.testBit k && (xbits s n).getD (i + k) false) = (xat p (xst s i) m).a.testBit 0 := fun m => by
    induction m with
    | zero =>
      intro _
      show false = Nat.testBit 0 0
      simp
    | succ m ih =>
      intro hm
      rw [px, ih (by omega), xbits_get s (by omega), low_bit, xat, xst_xst]
      cases p.testBit m
      · simp
      · rw [if_pos rfl]
        show _ = ((xat p (xst s i) m).a ^^^ (xst s (i + m)).a).testBit 0
        rw [Nat.testBit_xor]; simp
  exact key (d + 1) (by omega)
theorem RP_ru {s : X4} (h : s.wf) (n : Nat) : Ru (xbits s n) RP := by
  refine ⟨RP_ne, fun i hi => ?_⟩
  rw [bl_RP, xbits_len] at hi
  rw [bl_RP, od_xbits _ _ hi, act_of (n := 257) (by rw [bl_RP]; omega), act_RP (xst_wf h i)]
  rfl
theorem lst_RP : lst (xbits x1 512) = RP := by
  have d : dv (lst (xbits x1 512)) RP := lst_dv (RP_ru x1_wf 512) (by rw [bl_RP, xbits_len]; omega)
  rcases RP_irr.2 _ d with e | e
  · have r := (lst_ru (xbits x1 512)).1
    rw [e] at r
    have := r.2 0 (by rw [xbits_len]; decide)
    rw [show bl 1 - 1 = 0 by decide, od_xbits _ _ (by omega)] at this
    exact absurd this (by decide)
  · exact e
theorem lc_RP : lc (xbits x1 512) = 256 := by
  have := (lst_ru (xbits x1 512)).2
  rw [lst_RP, bl_RP] at this
  omega
end Go.Proofs.YteomkgcepiecjaaGreat.I
/- massey: odd, search. -/
namespace Go.Proofs.YteomkgcepiecjaaGreat.I
open Go
open Nat renaming reduceEqDiff → kn1, reduceBEq → kn2, reducePow → kn3, reduceMod → kn4, reduceAdd → kn5, reduceSub → kn6, reduceMul → kn7, reduceDiv → kn8, reduceLeDiff → kn9, reduceLT → kn0, zero_lt_one → kq1, zero_add → kq2, zero_le → kq3, le_refl → kq4
open Int renaming reduceToNat → kz1, reduceAdd → kz2, reduceSub → kz3, reduceMul → kz4, reduceDiv → kz5, reduceMod → kz6, reduceLE → kz7, reduceLT → kz8, reduceNeg → kz9, reduceEq → kz0
set_option maxRecDepth 10000
set_option linter.unusedSimpArgs false
set_option linter.unusedVariables false
@[go_sem] theorem wfs_bs (l : List Bool) : wfs (els V.b l) = True := eq_true ((wfs_iff _).2 fun x hx => by
  obtain ⟨b, _, rfl⟩ := List.mem_map.1 hx; exact trivial)
theorem tb_one {n : Nat} {i : Int} (h : 0 ≤ i) : tb n i = 1 ↔ n.testBit i.toNat = true := by
  unfold tb
  by_cases e : n.testBit i.toNat = true
  · simp [h, e]
  · simp [e]
def bmV (t : Bm) : List V := [vP t.c, vP t.b, .z t.n, .z t.ago]
noncomputable def tBm : Ty Bm := Ty.by (fun t => .agg (bmV t)) fun a b h => by
  obtain ⟨c, d, n, g⟩ := a
  obtain ⟨c', d', n', g'⟩ := b
  have h : V.agg (bmV ⟨c, d, n, g⟩) = V.agg (bmV ⟨c', d', n', g'⟩) := h
  simp only [bmV, vP_eq, List.cons.injEq, V.agg.injEq, V.sl.injEq, els_inj, wd_inj', V.z.injEq, and_true] at h
  simp only [Bm.mk.injEq]
  omega
@[go_sem] theorem tBm_dec (c b n g : Nat) : tBm.dec (.agg [.sl (els (V.n .u64) (wd c)), .sl (els (V.n .u64) (wd b)), .z n, .z g]) = some ⟨c, b, n, g⟩ := tBm.h1 ⟨c, b, n, g⟩
theorem tBm_some {cs : List V} {t : Bm} (h : tBm.dec (.agg cs) = some t) : cs = bmV t := by
  have := tBm.h2 _ _ h
  injection this
def row1 : List V → Option (List Bool)
  | [a] => tBs.dec a
  | _ => none
attribute [go_sem] row1.eq_1
theorem row1_some {cs : List V} {l : List Bool} (h : row1 cs = some l) : cs = [.sl (els V.b l)] := by
  unfold row1 at h
  split at h
  · rw [tBs.h2 _ _ h]; rfl
  · cases h
noncomputable def c_massey_search_1 : Cn
  | [.z i, .obj a 0, .obj b 0], om, K => @so _ (om a) ⟨fun cs => @so _ (om b) ⟨fun ds => @so _ (tBm.dec (.agg cs)) ⟨fun t => @so _ (row1 ds) ⟨fun l =>
      (0 ≤ i ∧ t.n ≤ i ∧ i < l.length ∧ l.length ≤ 1099511627776 ∧ bl t.c ≤ t.n + 1) ∧ K.k (.b ((cm t.c (rv l)).testBit i.toNat)) om⟩⟩⟩⟩
  | _, _, _ => False
attribute [go_sem] c_massey_search_1.eq_1
theorem c_massey_search_1_mono : Mono c_massey_search_1 := by
  intro args om K K' hK h
  unfold c_massey_search_1 at h ⊢
  split at h
  · exact mono_so (fun _ h => mono_so (fun _ h => mono_so (fun _ h => mono_so (fun _ h => ⟨h.1, hK _ _ h.2⟩) h) h) h) h
  · exact h.elim
noncomputable def cx_massey_search_1 : Cx := { T := T, E := E, cs := [(189, c_gfp_Bit)], sch := [], ob := [], qs := [189] }
@[go_sem] theorem cx_massey_search_1_e : cx_massey_search_1.gs = none ∧ cx_massey_search_1.md = 0 ∧ cx_massey_search_1.T = T ∧ cx_massey_search_1.E = E ∧ cx_massey_search_1.cs = [(189, c_gfp_Bit)] ∧ ∀ d, (cx_massey_search_1.ob).contains d = false := ⟨rfl, rfl, rfl, rfl, rfl, fun _ => rfl⟩
theorem cok_massey_search_1 : COk Tryz.prog (cx_massey_search_1) := cok_of rfl (.cons ok_gfp_Bit (.nil)) (.cons (fun _ => fn2_quiet) (.nil)) (.nil)
theorem ok_massey_search_1 : Ok Tryz.prog 215 c_massey_search_1 := by
  refine ok_of_body1 cok_massey_search_1 mixed Tryz.func215 rfl (by kernel_rfl) (by kernel_rfl) c_massey_search_1_mono fun args om Q hw h => ?_
  unfold c_massey_search_1 at h
  split at h <;> first | exact h.elim | skip
  rename_i om _ _ _ i a b
  replace h := so_inv h; obtain ⟨cs, hcs, h⟩ := h
  replace h := so_inv h; obtain ⟨ds, hds, h⟩ := h
  replace h := so_inv h; obtain ⟨⟨c, bb, n, g⟩, hx, h⟩ := h
  replace h := so_inv h; obtain ⟨l, hy, ⟨h1, h2, h3, h4, h5⟩, h⟩ := h
  obtain rfl := tBm_some hx
  obtain rfl := row1_some hy
  obtain ⟨i, rfl⟩ := Int.eq_ofNat_of_zero_le h1
  simp only [bmV, vP_eq] at h2 h5 hcs h
  simp only [go_sem, Tryz.f215, kn1, kn2, kn3, kn4, kn5, kn6, kn7, kn8, kn9, kz1, kz2, kz3, kz4, kz5, kz6, kz7, kz8, kz9, kz0, reduceCtorEq, String.reduceEq, hcs, hds]
  refine ⟨by omega, Nat, fun k => ⟨[.z i, .obj a 0, .obj b 0, .u, .b false, .b (px k fun k => c.testBit k && l.getD (i - k) false), .u, .u, .u, .z (n + 1), .z k, .u, .u, .u, .u, .u, .u, .u, .u, .u, .u, .u, .u, .u, .u, .u, .u, .u, .u, .u], [], om⟩, fun k => k ≤ n + 1, fun k => n + 1 - k, ⟨0, Nat.zero_le _, ?_⟩, ?_⟩
  · simp only [go_sem, kn1, kn2, kn3, kn4, kn5, kn6, kn7, kn8, kn9, kz1, kz2, kz3, kz4, kz5, kz6, kz7, kz8, kz9, kz0, reduceCtorEq, String.reduceEq, px]
  · intro k hk
    have hb := tb_one (n := c) (i := k) (by omega)
    have st : (px (k + 1) fun k => c.testBit k && l.getD (i - k) false) = ((px k fun k => c.testBit k && l.getD (i - k) false) ^^ (c.testBit k && l.getD (i - k) false)) := rfl
    have fin : ¬ k < n + 1 → (px k fun k => c.testBit k && l.getD (i - k) false) = (cm c (rv l)).testBit i := fun h => by
      have : k = n + 1 := by omega
      subst this
      have e := px_more (m := n + 1) (n := i + 1) (f := fun k => c.testBit k && (rv l).testBit (i - k)) (by omega) fun j j1 _ => by rw [testBit_bl (x := c) (by omega)]; rfl
      rw [testBit_cm, e]
      refine px_congr fun j _ => ?_
      rw [testBit_rv]
    rw [Int.toNat_natCast] at hb h
    have e1 : ((i : Int) - k).toNat = i - k := by omega
    cases hl : l.getD (i - k) false
    all_goals
      simp only [go_sem, kn1, kn2, kn3, kn4, kn5, kn6, kn7, kn8, kn9, kz1, kz2, kz3, kz4, kz5, kz6, kz7, kz8, kz9, kz0, reduceCtorEq, String.reduceEq, hcs, hds, e1, hl]
      rw [hl] at st
      refine ⟨fun g1 _ => ⟨fun g2 => ⟨by omega, by omega, ?_⟩, fun g2 => ⟨by omega, k + 1, by omega, ⟨?_, by omega⟩, by omega⟩⟩, fun g1 => by rw [fin (by omega)]; exact h⟩
    · exact ⟨by omega, k + 1, by omega, ⟨by rw [st]; simp, by omega⟩, by omega⟩
    · rw [st]; simp
    · refine ⟨by omega, k + 1, by omega, ⟨by rw [st, hb.1 g2]; simp, by omega⟩, by omega⟩
    · have : c.testBit k = false := by
        cases e : c.testBit k with
        | false => rfl
        | true => exact absurd (hb.2 e) g2
      rw [st, this]; simp
@[go_sem] noncomputable def c_massey_search : Cn := fn1 tBs (fun l => l.length ≤ 2048) fun l => .agg (bmV (bmL l))
noncomputable def cx_massey_search : Cx := { T := T, E := E, cs := [(204, c_gfp_Up), (207, c_gfp_Add), (215, c_massey_search_1)], sch := [(8, false, .take 0 (.take 1 (.take 2 (.take 3 (.take 4 (.take 5 (.alt 6 (.alt 7 (.take 8 (.done)) .no) .no)))))))], ob := [1,3], qs := [204, 207] }
@[go_sem] theorem cx_massey_search_e : cx_massey_search.gs = none ∧ cx_massey_search.md = 0 ∧ cx_massey_search.T = T ∧ cx_massey_search.E = E ∧ cx_massey_search.cs = [(204, c_gfp_Up), (207, c_gfp_Add), (215, c_massey_search_1)] ∧ cx_massey_search.sch = [(8, false, .take 0 (.take 1 (.take 2 (.take 3 (.take 4 (.take 5 (.alt 6 (.alt 7 (.take 8 (.done)) .no) .no)))))))] ∧ cx_massey_search.ob = [1,3] := ⟨rfl, rfl, rfl, rfl, rfl, rfl, rfl⟩
theorem cok_massey_search : COk Tryz.prog (cx_massey_search) := cok_of rfl (.cons ok_gfp_Up (.cons ok_gfp_Add (.cons ok_massey_search_1 (.nil)))) (.cons (fun _ => fn2_quiet) (.cons (fun _ => fn2_quiet) (.cons (fun h => absurd h (by decide)) (.nil)))) (.nil)
theorem ok_massey_search : Ok Tryz.prog 206 c_massey_search := by
  refine ok_fn1 cok_massey_search mixed Tryz.func206 rfl (by kernel_rfl) (by kernel_rfl) rfl ?_
  intro l om hw hl
  simp only [go_sem, Tryz.f206, kn1, kn2, kn3, kn4, kn5, kn6, kn7, kn8, kn9, kz1, kz2, kz3, kz4, kz5, kz6, kz7, kz8, kz9, kz0, reduceCtorEq, String.reduceEq]
  intro b hb
  refine ⟨by omega, by omega, fun a ha => ?_⟩
  obtain ⟨hab, hba, ha⟩ := new_ne ha
  simp only [go_sem, kn1, kn2, kn3, kn4, kn5, kn6, kn7, kn8, kn9, kz1, kz2, kz3, kz4, kz5, kz6, kz7, kz8, kz9, kz0, reduceCtorEq, String.reduceEq, hab, hba]
  refine ⟨Nat × Bm, fun p => ⟨[.sl (els V.b l), .obj b 0, .ref 2 1 4 0 0, .obj a 0, .fn (Fn.func 215) [] [.obj a 0, .obj b 0], .u, .u, .u, .u, .u, .u, .u, .z l.length, .z p.1, .u, .u, .u, .u, .u, .u, .u, .u, .u, .u, .u, .u, .u, .u, .u, .u, .u, .u, .u, .u, .u, .u, .u, .u, .u, .u, .u, .u, .u, .u, .u, .u, .u, .u, .u, .u, .u, .u, .u, .u], [(2, ⟨4, true, [.agg [.nils, .nils, .z 0, .z 0]], false⟩)], (om.put b [.sl (els V.b l)]).put a (bmV p.2)⟩,
    fun p => p.1 ≤ l.length ∧ p.2 = bm (rv l) p.1, fun p => l.length - p.1, ⟨(0, bm (rv l) 0), ⟨Nat.zero_le _, rfl⟩, ?_⟩, ?_⟩
  · simp only [go_sem, kn1, kn2, kn3, kn4, kn5, kn6, kn7, kn8, kn9, kz1, kz2, kz3, kz4, kz5, kz6, kz7, kz8, kz9, kz0, reduceCtorEq, String.reduceEq, bm, bmV, wd_lit1]
  · rintro ⟨i, t⟩ ⟨h1, ht0⟩
    simp only at h1 ht0
    subst ht0
    have ok := bm_ok (rv l) i
    obtain ⟨⟨c, bb, n, g⟩, ht⟩ : ∃ t, bm (rv l) i = t := ⟨_, rfl⟩
    have hs : bm (rv l) (i + 1) = bmStep (rv l) i (bm (rv l) i) := rfl
    rw [ht] at ok hs ⊢
    have o1 := ok.ok.2.1
    have o2 := ok.ni
    have o3 := ok.bb
    simp only at o1 o2 o3 h1
    have fin : ¬ (i : Int) < l.length → 0 < 1 ∧ 0 < 1 ∧ OmKept om ((om.put b [.sl (els V.b l)]).put a [.sl (els (V.n .u64) (wd c)), .sl (els (V.n .u64) (wd bb)), .z n, .z g]) ∧ c = (bmL l).c ∧ bb = (bmL l).b ∧ (n : Int) = (bmL l).n ∧ (g : Int) = (bmL l).ago := fun h => by
      have : i = l.length := by omega
      subst this
      refine ⟨by omega, by omega, .put ha (.put hb (.refl _)), ?_⟩
      rw [bmL, ht]; exact ⟨rfl, rfl, rfl, rfl⟩
    cases hw2 : (cm c (rv l)).testBit i
    · simp only [go_sem, kn1, kn2, kn3, kn4, kn5, kn6, kn7, kn8, kn9, kz1, kz2, kz3, kz4, kz5, kz6, kz7, kz8, kz9, kz0, reduceCtorEq, String.reduceEq, hab, hba, bmV, hw2]
      refine ⟨fun h => ⟨by omega, ?_⟩, fin⟩
      have e : bm (rv l) (i + 1) = ⟨c, bb, n, g + 1⟩ := by rw [hs]; unfold bmStep; simp [hw2]
      refine ⟨by omega, by omega, (i + 1, ⟨c, bb, n, g + 1⟩), ⟨by show i + 1 ≤ _; omega, e.symm⟩, ⟨rfl, ?_⟩, by show l.length - (i + 1) < _; omega⟩
      exact .refl _
    · have b1 := bl_xor_le c (bb <<< g)
      have b2 : bl (bb <<< g) ≤ bl bb + g := by
        by_cases h0 : bb = 0
        · subst h0; simp [bl_zero]
        · rw [bl_shl h0]; omega
      have eu : i < l.length → upP bb g = bb <<< g := fun h => by unfold upP; rw [if_pos (by omega)]; rfl
      simp only [go_sem, kn1, kn2, kn3, kn4, kn5, kn6, kn7, kn8, kn9, kz1, kz2, kz3, kz4, kz5, kz6, kz7, kz8, kz9, kz0, reduceCtorEq, String.reduceEq, hab, hba, bmV, hw2]
      refine ⟨fun h => ?_, fin⟩
      simp only [eu (by omega)]
      refine ⟨by omega, by omega, fun _ => ⟨by omega, fun _ => ⟨by omega, fun h2 => ⟨by omega, by omega, by omega, ?_⟩, fun h2 => ⟨by omega, by omega, ?_⟩⟩⟩⟩
      · have e : bm (rv l) (i + 1) = ⟨c ^^^ bb <<< g, c, i + 1 - n, 1⟩ := by
          rw [hs]; unfold bmStep
          rw [if_pos hw2, if_pos (show 2 * n ≤ i by omega)]
        refine ⟨(i + 1, ⟨c ^^^ bb <<< g, c, i + 1 - n, 1⟩), ⟨by show i + 1 ≤ _; omega, e.symm⟩, ⟨rfl, ?_⟩, by show l.length - (i + 1) < _; omega⟩
        have ec : (((i + 1 - n : Nat)) : Int) = (i : Int) + 1 - n := by omega
        show OmKept (Om.put _ a [_, _, .z ((i + 1 - n : Nat) : Int), _]) _
        rw [ec]
        exact .refl _
      · have e : bm (rv l) (i + 1) = ⟨c ^^^ bb <<< g, bb, n, g + 1⟩ := by
          rw [hs]; unfold bmStep
          rw [if_pos hw2, if_neg (show ¬ 2 * n ≤ i by omega)]
        exact ⟨(i + 1, ⟨c ^^^ bb <<< g, bb, n, g + 1⟩), ⟨by show i + 1 ≤ _; omega, e.symm⟩, ⟨rfl, .refl _⟩, by show l.length - (i + 1) < _; omega⟩
end Go.Proofs.YteomkgcepiecjaaGreat.I
/- massey: Rule, Length, Least, Goes. -/
namespace Go.Proofs.YteomkgcepiecjaaGreat.I
open Go
open Nat renaming reduceEqDiff → kn1, reduceBEq → kn2, reducePow → kn3, reduceMod → kn4, reduceAdd → kn5, reduceSub → kn6, reduceMul → kn7, reduceDiv → kn8, reduceLeDiff → kn9, reduceLT → kn0, zero_lt_one → kq1, zero_add → kq2, zero_le → kq3, le_refl → kq4
open Int renaming reduceToNat → kz1, reduceAdd → kz2, reduceSub → kz3, reduceMul → kz4, reduceDiv → kz5, reduceMod → kz6, reduceLE → kz7, reduceLT → kz8, reduceNeg → kz9, reduceEq → kz0
set_option maxRecDepth 10000
set_option linter.unusedSimpArgs false
set_option linter.unusedVariables false
theorem ofB_succ (f : Nat → Bool) (n : Nat) : ofB f (n + 1) = ofB f n ^^^ (if f n = true then 2 ^ n else 0) := rfl
theorem bl_ofB (f : Nat → Bool) (n : Nat) : bl (ofB f n) ≤ n := bl_le_of fun k hk => by
  rw [testBit_ofB]; have : ¬ k < n := by omega
  simp [this]
@[go_sem] noncomputable def c_massey_Least : Cn := fn1i tBs (fun l => l.length ≤ 1099511627776) (fun l => l.length ≤ 2048 ∧ 2 * lc l ≤ l.length) (fun l => .tup [vP (lst l), .b true]) (fun _ => .tup [vP 0, .b false])
noncomputable def cx_massey_Least : Cx := { T := T, E := E, cs := [(189, c_gfp_Bit), (196, c_gfp_X), (206, c_massey_search), (207, c_gfp_Add)], sch := [], ob := [], qs := [189, 196, 206, 207] }
@[go_sem] theorem cx_massey_Least_e : cx_massey_Least.gs = none ∧ cx_massey_Least.md = 0 ∧ cx_massey_Least.T = T ∧ cx_massey_Least.E = E ∧ cx_massey_Least.cs = [(189, c_gfp_Bit), (196, c_gfp_X), (206, c_massey_search), (207, c_gfp_Add)] ∧ ∀ d, (cx_massey_Least.ob).contains d = false := ⟨rfl, rfl, rfl, rfl, rfl, fun _ => rfl⟩
theorem cok_massey_Least : COk Tryz.prog (cx_massey_Least) := cok_of rfl (.cons ok_gfp_Bit (.cons ok_gfp_X (.cons ok_massey_search (.cons ok_gfp_Add (.nil))))) (.cons (fun _ => fn2_quiet) (.cons (fun _ => fn1_quiet) (.cons (fun _ => fn1_quiet) (.cons (fun _ => fn2_quiet) (.nil))))) (.nil)
theorem ok_massey_Least : Ok Tryz.prog 198 c_massey_Least := by
  refine ok_fn1i cok_massey_Least mixed Tryz.func198 rfl (by kernel_rfl) (by kernel_rfl) rfl ?_
  intro l om hw hl
  have hn := lc_le l
  have hlst : lst l = revP (lc l) (bmL l).c := rfl
  have hlc : lc l = (bmL l).n := rfl
  have hbl := (bm_ok (rv l) l.length).ok.2.1
  have ebm : bm (rv l) l.length = bmL l := rfl
  rw [ebm, ← hlc] at hbl
  obtain ⟨⟨c, b, n, g⟩, ht⟩ : ∃ t, bmL l = t := ⟨_, rfl⟩
  rw [ht] at hlst hlc hbl
  simp only at hlst hlc hbl
  rw [hlc] at hn hbl
  rw [hlst, hlc]
  simp only [go_sem, Tryz.f198, kn1, kn2, kn3, kn4, kn5, kn6, kn7, kn8, kn9, kz1, kz2, kz3, kz4, kz5, kz6, kz7, kz8, kz9, kz0, reduceCtorEq, String.reduceEq, bmV, ht]
  refine ⟨fun h => ?_, fun h => ⟨by omega, fun _ => ⟨by omega, by omega, by omega, fun h1 => ?_, fun h1 => ⟨by omega, ?_⟩⟩⟩⟩
  · rw [if_neg (by omega)]
  · rw [if_neg (by omega)]
  · rw [if_pos (by omega)]
    refine ⟨by omega, Nat, fun k => ⟨[.sl (els V.b l), .u, .u, .b false, .ref 4 1 4 0 0, .sl (els (V.n .u64) (wd (ofB (fun j => c.testBit (n - j)) k))), .u, .u, .u, .u, .u, .u, .u, .u, .u, .u, .u, .u, .u, .u, .z (n + 1), .z k, .u, .u, .u, .u, .u, .u, .u, .u, .u, .u, .u, .u, .u, .u, .u, .u], [(4, ⟨4, true, [.agg [.sl (els (V.n .u64) (wd c)), .sl (els (V.n .u64) (wd b)), .z n, .z g]], false⟩)], om⟩, fun k => k ≤ n + 1, fun k => n + 1 - k, ⟨0, Nat.zero_le _, ?_⟩, ?_⟩
    · simp only [go_sem, kn1, kn2, kn3, kn4, kn5, kn6, kn7, kn8, kn9, kz1, kz2, kz3, kz4, kz5, kz6, kz7, kz8, kz9, kz0, reduceCtorEq, String.reduceEq, ofB]
    · intro k hk
      have hb := tb_one (n := c) (i := (n : Int) - k)
      have st := ofB_succ (fun j => c.testBit (n - j)) k
      have b1 := bl_ofB (fun j => c.testBit (n - j)) k
      simp only [go_sem, kn1, kn2, kn3, kn4, kn5, kn6, kn7, kn8, kn9, kz1, kz2, kz3, kz4, kz5, kz6, kz7, kz8, kz9, kz0, reduceCtorEq, String.reduceEq]
      refine ⟨fun h2 => ?_, fun h2 => ?_⟩
      · have hb := hb (by omega)
        rw [show ((n : Int) - k).toNat = n - k by omega] at hb
        have eu : upP 1 k = 2 ^ k := by unfold upP; rw [if_pos (by omega), Nat.one_shiftLeft]; rfl
        have b2 : bl (2 ^ k) = k + 1 := bl_unique (Nat.le_refl _) (Nat.pow_lt_pow_right (by omega) (by omega))
        have b3 := bl_xor_le (ofB (fun j => c.testBit (n - j)) k) (2 ^ k)
        rw [eu]
        refine ⟨by omega, by omega, by omega, fun _ => ⟨fun g1 _ => ⟨by omega, fun _ => ⟨by omega, k + 1, by omega, ⟨?_, by omega⟩, by omega⟩⟩, fun g1 => ⟨by omega, k + 1, by omega, ⟨?_, by omega⟩, by omega⟩⟩⟩
        · rw [st, if_pos (hb.1 g1)]
        · rw [st, if_neg (fun e => g1 (hb.2 e)), Nat.xor_zero]
      · have : k = n + 1 := by omega
        subst this; rfl
@[go_sem] theorem flat_b (x : Bool) : flat [V.b x] = [V.b x] := rfl
def go (p : Nat) (l : List Bool) : Nat → List Bool
  | 0 => l
  | k + 1 => go p l k ++ [od p (go p l k) ((go p l k).length - (bl p - 1)) (bl p - 2)]
end Go.Proofs.YteomkgcepiecjaaGreat.I
/- xjump: Rule, Poly, Jump, Powers. -/
namespace Go.Proofs.YteomkgcepiecjaaGreat.I
open Go
open Nat renaming reduceEqDiff → kn1, reduceBEq → kn2, reducePow → kn3, reduceMod → kn4, reduceAdd → kn5, reduceSub → kn6, reduceMul → kn7, reduceDiv → kn8, reduceLeDiff → kn9, reduceLT → kn0, zero_lt_one → kq1, zero_add → kq2, zero_le → kq3, le_refl → kq4
open Int renaming reduceToNat → kz1, reduceAdd → kz2, reduceSub → kz3, reduceMul → kz4, reduceDiv → kz5, reduceMod → kz6, reduceLE → kz7, reduceLT → kz8, reduceNeg → kz9, reduceEq → kz0
set_option maxRecDepth 10000
set_option linter.unusedSimpArgs false
set_option linter.unusedVariables false
@[go_sem] noncomputable def c_xjump_Rule : Cn := fn0 (vP RP)
noncomputable def cx_xjump_Rule : Cx := { T := T, E := E, cs := [(197, c_xosh_Bits), (198, c_massey_Least)], sch := [], ob := [], qs := [197, 198] }
@[go_sem] theorem cx_xjump_Rule_e : cx_xjump_Rule.gs = none ∧ cx_xjump_Rule.md = 0 ∧ cx_xjump_Rule.T = T ∧ cx_xjump_Rule.E = E ∧ cx_xjump_Rule.cs = [(197, c_xosh_Bits), (198, c_massey_Least)] ∧ ∀ d, (cx_xjump_Rule.ob).contains d = false := ⟨rfl, rfl, rfl, rfl, rfl, fun _ => rfl⟩
theorem cok_xjump_Rule : COk Tryz.prog (cx_xjump_Rule) := cok_of rfl (.cons ok_xosh_Bits (.cons ok_massey_Least (.nil))) (.cons (fun _ => fn2i_quiet) (.cons (fun _ => fn1i_quiet) (.nil))) (.nil)
theorem ok_xjump_Rule : Ok Tryz.prog 192 c_xjump_Rule := by
  refine ok_fn0 cok_xjump_Rule mixed Tryz.func192 rfl (by kernel_rfl) (by kernel_rfl) rfl ?_
  intro om
  have h1 : lst (xbits ⟨1, 0, 0, 0⟩ 512) = RP := lst_RP
  have h2 : lc (xbits ⟨1, 0, 0, 0⟩ 512) = 256 := lc_RP
  simp only [go_sem, Tryz.f192, kn1, kn2, kn3, kn4, kn5, kn6, kn7, kn8, kn9, kz1, kz2, kz3, kz4, kz5, kz6, kz7, kz8, kz9, kz0, reduceCtorEq, String.reduceEq, kn0, kq1, kq2, kq3, kq4, Int.toNat_natCast, xbits_len, h1, h2]
@[go_sem] noncomputable def c_xjump_Poly : Cn := fn1 tW (fun _ => True) fun n => vP (pwr 2 RP n)
noncomputable def cx_xjump_Poly : Cx := { T := T, E := E, cs := [(191, c_gfpow_X), (192, c_xjump_Rule)], sch := [(1, false, .take 0 (.alt 1 (.alt 2 (.take 3 (.take 4 (.take 5 (.take 6 (.take 7 (.done)))))) .no) .no))], ob := [], qs := [191, 192] }
@[go_sem] theorem cx_xjump_Poly_e : cx_xjump_Poly.gs = none ∧ cx_xjump_Poly.md = 0 ∧ cx_xjump_Poly.T = T ∧ cx_xjump_Poly.E = E ∧ cx_xjump_Poly.cs = [(191, c_gfpow_X), (192, c_xjump_Rule)] ∧ cx_xjump_Poly.sch = [(1, false, .take 0 (.alt 1 (.alt 2 (.take 3 (.take 4 (.take 5 (.take 6 (.take 7 (.done)))))) .no) .no))] ∧ ∀ d, (cx_xjump_Poly.ob).contains d = false := ⟨rfl, rfl, rfl, rfl, rfl, rfl, fun _ => rfl⟩
theorem cok_xjump_Poly : COk Tryz.prog (cx_xjump_Poly) := cok_of rfl (.cons ok_gfpow_X (.cons ok_xjump_Rule (.nil))) (.cons (fun _ => fn2i_quiet) (.cons (fun _ => fn0_quiet) (.nil))) (.nil)
theorem ok_xjump_Poly : Ok Tryz.prog 186 c_xjump_Poly := by
  refine ok_fn1 cok_xjump_Poly mixed Tryz.func186 rfl (by kernel_rfl) (by kernel_rfl) rfl ?_
  intro n om hw _
  have hR : (RP = 0) = False := eq_false RP_ne
  simp only [go_sem, Tryz.f186, kn1, kn2, kn3, kn4, kn5, kn6, kn7, kn8, kn9, kz1, kz2, kz3, kz4, kz5, kz6, kz7, kz8, kz9, kz0, reduceCtorEq, String.reduceEq, kn0, kq1, kq2, kq3, kq4, Int.toNat_natCast, hR, bl_RP]
@[go_sem] noncomputable def c_xjump_Jump : Cn := fn2i tX tW (fun _ _ => True) (fun s _ => s = x0) (fun _ _ => .tup [vX x0, .z 3]) fun s n => .tup [vX (xst s n), .z 0]
noncomputable def cx_xjump_Jump : Cx := { T := T, E := E, cs := [(182, c_xosh_Right), (185, c_xjump_At), (186, c_xjump_Poly)], sch := [(3, false, .take 0 (.take 2 (.alt 1 (.alt 3 (.alt 4 (.take 5 (.done)) .no) .no) .no)))], ob := [], qs := [182, 185, 186] }
@[go_sem] theorem cx_xjump_Jump_e : cx_xjump_Jump.gs = none ∧ cx_xjump_Jump.md = 0 ∧ cx_xjump_Jump.T = T ∧ cx_xjump_Jump.E = E ∧ cx_xjump_Jump.cs = [(182, c_xosh_Right), (185, c_xjump_At), (186, c_xjump_Poly)] ∧ cx_xjump_Jump.sch = [(3, false, .take 0 (.take 2 (.alt 1 (.alt 3 (.alt 4 (.take 5 (.done)) .no) .no) .no)))] ∧ ∀ d, (cx_xjump_Jump.ob).contains d = false := ⟨rfl, rfl, rfl, rfl, rfl, rfl, fun _ => rfl⟩
theorem cok_xjump_Jump : COk Tryz.prog (cx_xjump_Jump) := cok_of rfl (.cons ok_xosh_Right (.cons ok_xjump_At (.cons ok_xjump_Poly (.nil)))) (.cons (fun _ => fn1_quiet) (.cons (fun _ => fn2_quiet) (.cons (fun _ => fn1_quiet) (.nil)))) (.nil)
theorem ok_xjump_Jump : Ok Tryz.prog 181 c_xjump_Jump := by
  refine ok_fn2i cok_xjump_Jump mixed Tryz.func181 rfl (by kernel_rfl) (by kernel_rfl) rfl ?_
  intro s n om hw _
  have hs : s.wf := wf_x hw
  have hp := pwr_lt 2 RP_ne n
  rw [bl_RP] at hp
  simp only [go_sem, Tryz.f181, kn1, kn2, kn3, kn4, kn5, kn6, kn7, kn8, kn9, kz1, kz2, kz3, kz4, kz5, kz6, kz7, kz8, kz9, kz0, reduceCtorEq, String.reduceEq, kn0, kq1, kq2, kq3, kq4, Int.toNat_natCast]
  have ha : xat (pwr 2 RP n) s (bl (pwr 2 RP n)) = xst s n := act_pwr n hs
  refine ⟨fun h _ => ⟨by omega, fun _ => ?_⟩, fun h => ?_⟩
  · rw [if_neg h, ha]
  · rw [if_pos (Decidable.not_not.1 h)]; rfl
end Go.Proofs.YteomkgcepiecjaaGreat.I
/- pcg: Map, Step, Word, Right, Jump; xosh.Word. -/
namespace Go.Proofs.YteomkgcepiecjaaGreat.I
open Go
open Nat renaming reduceEqDiff → kn1, reduceBEq → kn2, reducePow → kn3, reduceMod → kn4, reduceAdd → kn5, reduceSub → kn6, reduceMul → kn7, reduceDiv → kn8, reduceLeDiff → kn9, reduceLT → kn0, zero_lt_one → kq1, zero_add → kq2, zero_le → kq3, le_refl → kq4
open Int renaming reduceToNat → kz1, reduceAdd → kz2, reduceSub → kz3, reduceMul → kz4, reduceDiv → kz5, reduceMod → kz6, reduceLE → kz7, reduceLT → kz8, reduceNeg → kz9, reduceEq → kz0
set_option maxRecDepth 10000
set_option linter.unusedSimpArgs false
set_option linter.unusedVariables false
@[go_sem] noncomputable def c_pcg_Map : Cn := fn1 t2 (fun _ => True) fun s => v2 ⟨15750249268501108917, s.b⟩
noncomputable def cx_pcg_Map : Cx := { T := T, E := E, cs := [(17, c_wide_Of)], sch := [(1, false, .take 1 (.take 2 (.alt 0 (.take 3 (.alt 4 (.done) .no)) .no)))], ob := [], qs := [17] }
@[go_sem] theorem cx_pcg_Map_e : cx_pcg_Map.gs = none ∧ cx_pcg_Map.md = 0 ∧ cx_pcg_Map.T = T ∧ cx_pcg_Map.E = E ∧ cx_pcg_Map.cs = [(17, c_wide_Of)] ∧ cx_pcg_Map.sch = [(1, false, .take 1 (.take 2 (.alt 0 (.take 3 (.alt 4 (.done) .no)) .no)))] ∧ ∀ d, (cx_pcg_Map.ob).contains d = false := ⟨rfl, rfl, rfl, rfl, rfl, rfl, fun _ => rfl⟩
theorem cok_pcg_Map : COk Tryz.prog (cx_pcg_Map) := cok_of rfl (.cons ok_wide_Of (.nil)) (.cons (fun _ => fn1_quiet) (.nil)) (.nil)
theorem ok_pcg_Map : Ok Tryz.prog 235 c_pcg_Map := by
  refine ok_fn1 cok_pcg_Map mixed Tryz.func235 rfl (by kernel_rfl) (by kernel_rfl) rfl ?_
  intro s om hw _
  simp only [go_sem, Tryz.f235, kn1, kn2, kn3, kn4, kn5, kn6, kn7, kn8, kn9, kz1, kz2, kz3, kz4, kz5, kz6, kz7, kz8, kz9, kz0, reduceCtorEq, String.reduceEq, kn0, kq1, kq2, kq3, kq4, Int.toNat_natCast]
  repeat' (first | with_reducible refine And.intro ?_ ?_ | with_reducible intro _)
  all_goals first | omega | rfl | trivial
theorem t2_lit {l b : Nat} (h : l < 18446744073709551616) : t2.dec (.agg [.n .u64 0, .n .u64 l, .n .u64 (b / 18446744073709551616), .n .u64 (b % 18446744073709551616)]) = some ⟨l, b⟩ := by
  have := t2_dec l b
  rwa [Nat.div_eq_of_lt h, Nat.mod_eq_of_lt h] at this
def pcgS (s : D2) : D2 := ⟨aat ⟨15750249268501108917, s.b⟩ s.a, s.b⟩
@[go_sem] noncomputable def c_pcg_Step : Cn := fn1 t2 (fun _ => True) fun s => v2 (pcgS s)
noncomputable def cx_pcg_Step : Cx := { T := T, E := E, cs := [(233, c_affine_At), (235, c_pcg_Map)], sch := [(1, false, .take 0 (.take 2 (.take 3 (.take 5 (.take 6 (.alt 1 (.alt 4 (.take 7 (.alt 8 (.done) .no)) .no) .no))))))], ob := [], qs := [233, 235] }
@[go_sem] theorem cx_pcg_Step_e : cx_pcg_Step.gs = none ∧ cx_pcg_Step.md = 0 ∧ cx_pcg_Step.T = T ∧ cx_pcg_Step.E = E ∧ cx_pcg_Step.cs = [(233, c_affine_At), (235, c_pcg_Map)] ∧ cx_pcg_Step.sch = [(1, false, .take 0 (.take 2 (.take 3 (.take 5 (.take 6 (.alt 1 (.alt 4 (.take 7 (.alt 8 (.done) .no)) .no) .no))))))] ∧ ∀ d, (cx_pcg_Step.ob).contains d = false := ⟨rfl, rfl, rfl, rfl, rfl, rfl, fun _ => rfl⟩
theorem cok_pcg_Step : COk Tryz.prog (cx_pcg_Step) := cok_of rfl (.cons ok_affine_At (.cons ok_pcg_Map (.nil))) (.cons (fun _ => fn2_quiet) (.cons (fun _ => fn1_quiet) (.nil))) (.nil)
theorem ok_pcg_Step : Ok Tryz.prog 231 c_pcg_Step := by
  refine ok_fn1 cok_pcg_Step mixed Tryz.func231 rfl (by kernel_rfl) (by kernel_rfl) rfl ?_
  intro s om hw _
  simp only [go_sem, Tryz.f231, kn1, kn2, kn3, kn4, kn5, kn6, kn7, kn8, kn9, kz1, kz2, kz3, kz4, kz5, kz6, kz7, kz8, kz9, kz0, reduceCtorEq, String.reduceEq, kn0, kq1, kq2, kq3, kq4, Int.toNat_natCast, pcgS, t2_lit]
  repeat' (first | with_reducible refine And.intro ?_ ?_ | with_reducible intro _)
  all_goals first | omega | rfl | trivial
def pcgH (h : Nat) : Nat := (h ^^^ h >>> 32) * 15750249268501108917 % 18446744073709551616
def pcgW (s : D2) : Nat := (pcgH (s.a / 18446744073709551616) ^^^ pcgH (s.a / 18446744073709551616) >>> 48) * (s.a % 18446744073709551616 ||| 1) % 18446744073709551616
@[go_sem] noncomputable def c_pcg_Word : Cn := fn1 t2 (fun _ => True) fun s => .n .u64 (pcgW s)
noncomputable def cx_pcg_Word : Cx := { T := T, E := E, cs := [], sch := [(1, false, .take 0 (.take 1 (.take 2 (.take 3 (.take 4 (.take 5 (.take 6 (.take 7 (.take 8 (.done))))))))))], ob := [], qs := [] }
@[go_sem] theorem cx_pcg_Word_e : cx_pcg_Word.gs = none ∧ cx_pcg_Word.md = 0 ∧ cx_pcg_Word.T = T ∧ cx_pcg_Word.E = E ∧ cx_pcg_Word.cs = [] ∧ cx_pcg_Word.sch = [(1, false, .take 0 (.take 1 (.take 2 (.take 3 (.take 4 (.take 5 (.take 6 (.take 7 (.take 8 (.done))))))))))] ∧ ∀ d, (cx_pcg_Word.ob).contains d = false := ⟨rfl, rfl, rfl, rfl, rfl, rfl, fun _ => rfl⟩
theorem cok_pcg_Word : COk Tryz.prog (cx_pcg_Word) := cok_of rfl (.nil) (.nil) (.nil)
theorem ok_pcg_Word : Ok Tryz.prog 232 c_pcg_Word := by
  refine ok_fn1 cok_pcg_Word mixed Tryz.func232 rfl (by kernel_rfl) (by kernel_rfl) rfl ?_
  intro s om hw _
  simp only [go_sem, Tryz.f232, kn1, kn2, kn3, kn4, kn5, kn6, kn7, kn8, kn9, kz1, kz2, kz3, kz4, kz5, kz6, kz7, kz8, kz9, kz0, reduceCtorEq, String.reduceEq, kn0, kq1, kq2, kq3, kq4, Int.toNat_natCast, pcgW, pcgH]
  repeat' (first | with_reducible refine And.intro ?_ ?_ | with_reducible intro _)
  all_goals first | omega | rfl | trivial
@[go_sem] noncomputable def c_pcg_Right : Cn := fn1 t2 (fun _ => True) fun s => .b (decide (s.b % 2 = 1))
noncomputable def cx_pcg_Right : Cx := { T := T, E := E, cs := [(211, c_wide_Bit)], sch := [], ob := [], qs := [211] }
@[go_sem] theorem cx_pcg_Right_e : cx_pcg_Right.gs = none ∧ cx_pcg_Right.md = 0 ∧ cx_pcg_Right.T = T ∧ cx_pcg_Right.E = E ∧ cx_pcg_Right.cs = [(211, c_wide_Bit)] ∧ ∀ d, (cx_pcg_Right.ob).contains d = false := ⟨rfl, rfl, rfl, rfl, rfl, fun _ => rfl⟩
theorem cok_pcg_Right : COk Tryz.prog (cx_pcg_Right) := cok_of rfl (.cons ok_wide_Bit (.nil)) (.cons (fun _ => fn2_quiet) (.nil)) (.nil)
theorem ok_pcg_Right : Ok Tryz.prog 230 c_pcg_Right := by
  refine ok_fn1 cok_pcg_Right mixed Tryz.func230 rfl (by kernel_rfl) (by kernel_rfl) rfl ?_
  intro s om hw _
  simp only [go_sem, Tryz.f230, kn1, kn2, kn3, kn4, kn5, kn6, kn7, kn8, kn9, kz1, kz2, kz3, kz4, kz5, kz6, kz7, kz8, kz9, kz0, reduceCtorEq, String.reduceEq, kn0, kq1, kq2, kq3, kq4, Int.toNat_natCast, tb_0]
  refine fun _ => decide_eq_decide.2 ⟨fun h => by omega, fun h => by omega⟩
def pcgJ (s : D2) (n : Nat) : D2 := ⟨aat (apow ⟨15750249268501108917, s.b⟩ n) s.a, s.b⟩
@[go_sem] noncomputable def c_pcg_Jump : Cn := fn2i t2 tW (fun _ _ => True) (fun s _ => s.b % 2 = 1) (fun s n => .tup [v2 (pcgJ s n), .z 0]) (fun _ _ => .tup [v2 ⟨0, 0⟩, .z 3])
noncomputable def cx_pcg_Jump : Cx := { T := T, E := E, cs := [(230, c_pcg_Right), (233, c_affine_At), (234, c_affine_Power), (235, c_pcg_Map)], sch := [(3, false, .take 0 (.take 2 (.take 4 (.take 5 (.take 7 (.take 8 (.alt 1 (.alt 3 (.alt 6 (.take 9 (.alt 10 (.take 11 (.done)) .no)) .no) .no) .no)))))))], ob := [], qs := [230, 233, 234, 235] }
@[go_sem] theorem cx_pcg_Jump_e : cx_pcg_Jump.gs = none ∧ cx_pcg_Jump.md = 0 ∧ cx_pcg_Jump.T = T ∧ cx_pcg_Jump.E = E ∧ cx_pcg_Jump.cs = [(230, c_pcg_Right), (233, c_affine_At), (234, c_affine_Power), (235, c_pcg_Map)] ∧ cx_pcg_Jump.sch = [(3, false, .take 0 (.take 2 (.take 4 (.take 5 (.take 7 (.take 8 (.alt 1 (.alt 3 (.alt 6 (.take 9 (.alt 10 (.take 11 (.done)) .no)) .no) .no) .no)))))))] ∧ ∀ d, (cx_pcg_Jump.ob).contains d = false := ⟨rfl, rfl, rfl, rfl, rfl, rfl, fun _ => rfl⟩
theorem cok_pcg_Jump : COk Tryz.prog (cx_pcg_Jump) := cok_of rfl (.cons ok_pcg_Right (.cons ok_affine_At (.cons ok_affine_Power (.cons ok_pcg_Map (.nil))))) (.cons (fun _ => fn1_quiet) (.cons (fun _ => fn2_quiet) (.cons (fun _ => fn2_quiet) (.cons (fun _ => fn1_quiet) (.nil))))) (.nil)
theorem ok_pcg_Jump : Ok Tryz.prog 229 c_pcg_Jump := by
  refine ok_fn2i cok_pcg_Jump mixed Tryz.func229 rfl (by kernel_rfl) (by kernel_rfl) rfl ?_
  intro s n om hw _
  simp only [go_sem, Tryz.f229, kn1, kn2, kn3, kn4, kn5, kn6, kn7, kn8, kn9, kz1, kz2, kz3, kz4, kz5, kz6, kz7, kz8, kz9, kz0, reduceCtorEq, String.reduceEq, kn0, kq1, kq2, kq3, kq4, Int.toNat_natCast, pcgJ, t2_lit]
  refine ⟨fun h => ?_, fun h => by rw [if_neg h]⟩
  rw [if_pos h]
  intros; rfl
end Go.Proofs.YteomkgcepiecjaaGreat.I
