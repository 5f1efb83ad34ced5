/- xosh: Step, Right, Add; the references 07: Step, Jump; 08: Add. -/
import Derived.Test.YtaojebdjkpdcdaaWide1
namespace Go.Proofs.Ytaojebdjkpdcdaa.I
open Go
set_option maxRecDepth 10000
set_option linter.unusedSimpArgs false
set_option linter.unusedVariables false

/-- A state: four words. -/
structure X4 where
  a : Nat
  b : Nat
  c : Nat
  d : Nat
deriving DecidableEq
@[go_sem] theorem X4_eta (s : X4) : X4.mk s.a s.b s.c s.d = s := rfl
def vX (s : X4) : V := .agg [.n .u64 s.a, .n .u64 s.b, .n .u64 s.c, .n .u64 s.d]
@[go_sem] theorem vX_eq (s : X4) : vX s = .agg [.n .u64 s.a, .n .u64 s.b, .n .u64 s.c, .n .u64 s.d] := rfl
noncomputable def tX : Ty X4 := Ty.by vX fun s t h => by
  cases s; cases t
  simp only [vX_eq, V.agg.injEq, List.cons.injEq, V.n.injEq, true_and, and_true] at h
  simp [h]
@[go_sem] theorem tX_enc (s : X4) : tX.enc s = .agg [.n .u64 s.a, .n .u64 s.b, .n .u64 s.c, .n .u64 s.d] := rfl
@[go_sem] theorem tX_dec (a b c d : Nat) : tX.dec (.agg [.n .u64 a, .n .u64 b, .n .u64 c, .n .u64 d]) = some ⟨a, b, c, d⟩ := tX.h1 ⟨a, b, c, d⟩
def X4.wf (s : X4) : Prop := s.a < 18446744073709551616 ∧ s.b < 18446744073709551616 ∧ s.c < 18446744073709551616 ∧ s.d < 18446744073709551616
theorem wf_x {s : X4} {vs : List V} (h : wfs (.agg [.n .u64 s.a, .n .u64 s.b, .n .u64 s.c, .n .u64 s.d] :: vs)) : s.wf := ⟨h.1.1, h.1.2.1, h.1.2.2.1, h.1.2.2.2.1⟩

def rot (x : Nat) : Nat := (x <<< 45) % 18446744073709551616 ||| x >>> 19
def xstep (s : X4) : X4 := ⟨s.a ^^^ (s.d ^^^ s.b), s.b ^^^ (s.c ^^^ s.a), (s.c ^^^ s.a) ^^^ ((s.b <<< 17) % 18446744073709551616), rot (s.d ^^^ s.b)⟩
def xadd (s t : X4) : X4 := ⟨s.a ^^^ t.a, s.b ^^^ t.b, s.c ^^^ t.c, s.d ^^^ t.d⟩
/-- The words below k added. -/
def addK (s t : X4) : Nat → X4
  | 0 => s
  | 1 => ⟨s.a ^^^ t.a, s.b, s.c, s.d⟩
  | 2 => ⟨s.a ^^^ t.a, s.b ^^^ t.b, s.c, s.d⟩
  | 3 => ⟨s.a ^^^ t.a, s.b ^^^ t.b, s.c ^^^ t.c, s.d⟩
  | _ => ⟨s.a ^^^ t.a, s.b ^^^ t.b, s.c ^^^ t.c, s.d ^^^ t.d⟩
theorem rot_lt {x : Nat} (h : x < 18446744073709551616) : rot x < 18446744073709551616 := by
  unfold rot
  refine Nat.or_lt_two_pow (n := 64) (Nat.mod_lt _ (by omega)) ?_
  rw [Nat.shiftRight_eq_div_pow]
  exact Nat.lt_of_le_of_lt (Nat.div_le_self _ _) h
theorem xor_lt {x y : Nat} (h : x < 18446744073709551616) (g : y < 18446744073709551616) : x ^^^ y < 18446744073709551616 := Nat.xor_lt_two_pow (n := 64) h g
theorem X4.wf.d_xor_b {s : X4} (h : s.wf) : s.d ^^^ s.b < 18446744073709551616 := xor_lt h.2.2.2 h.2.1
theorem xstep_wf {s : X4} (h : s.wf) : (xstep s).wf := by
  obtain ⟨h1, h2, h3, h4⟩ := h
  exact ⟨xor_lt h1 (xor_lt h4 h2), xor_lt h2 (xor_lt h3 h1), xor_lt (xor_lt h3 h1) (Nat.mod_lt _ (by omega)), rot_lt (xor_lt h4 h2)⟩
def x0 : X4 := ⟨0, 0, 0, 0⟩

def c_math_bits_RotateLeft64 : Cn := fn2 (tN .u64) tZ (fun _ k => k = 45) fun x _ => .n .u64 (rot x)
noncomputable def cx_math_bits_RotateLeft64 : Cx := { T := T, E := E, cs := [], sch := [], ob := [], qs := [] }
@[go_sem] theorem cx_math_bits_RotateLeft64_md : cx_math_bits_RotateLeft64.md = 0 := rfl
@[go_sem] theorem cx_math_bits_RotateLeft64_T : cx_math_bits_RotateLeft64.T = T := rfl
@[go_sem] theorem cx_math_bits_RotateLeft64_E : cx_math_bits_RotateLeft64.E = E := rfl
@[go_sem] theorem cx_math_bits_RotateLeft64_cs : cx_math_bits_RotateLeft64.cs = [] := rfl
@[go_sem] theorem cx_math_bits_RotateLeft64_ob (d : Nat) : (cx_math_bits_RotateLeft64.ob).contains d = false := rfl
theorem cok_math_bits_RotateLeft64 : COk Try.prog (cx_math_bits_RotateLeft64) := cok_of rfl (.nil) (.nil) (.nil)
theorem ok_math_bits_RotateLeft64 : Ok Try.prog 86 c_math_bits_RotateLeft64 := by
  refine ok_fn2 cok_math_bits_RotateLeft64 mixed Try.func86 rfl (by kernel_rfl) (by kernel_rfl) rfl ?_
  intro x k om hw hk
  subst hk
  simp only [go_sem, Try.f86, Nat.reduceEqDiff, Nat.reduceBEq, Int.reduceToNat, Nat.reducePow, Nat.reduceMod, Nat.reduceAdd, Nat.reduceSub, Nat.reduceMul, Nat.reduceDiv, Nat.reduceLeDiff, Int.reduceAdd, Int.reduceSub, Int.reduceMul, Int.reduceDiv, Int.reduceMod, Int.reduceLE, Int.reduceLT, Int.reduceNeg, Int.reduceEq, Int.cast_ofNat_Int, Int.natCast_zero, List.contains_cons, List.contains_nil, Bool.or_false, Bool.or_true, Bool.true_or, reduceCtorEq, or_false, or_true, false_or, true_or, and_false, false_and, ne_eq, List.take_zero, List.take_succ_cons, List.take_nil, List.drop_zero, List.drop_succ_cons, List.drop_nil, decide_true, decide_false]
  rfl

def c_ref07_Turned : Cn := fn2 (tN .u64) tZ (fun _ k => k = 45) fun x _ => .n .u64 (rot x)
noncomputable def cx_ref07_Turned : Cx := { T := T, E := E, cs := [], sch := [(1, false, .take 0 (.take 1 (.take 2 (.take 3 (.take 4 (.take 5 (.take 6 (.take 7 (.take 8 (.done))))))))))], ob := [], qs := [] }
@[go_sem] theorem cx_ref07_Turned_md : cx_ref07_Turned.md = 0 := rfl
@[go_sem] theorem cx_ref07_Turned_T : cx_ref07_Turned.T = T := rfl
@[go_sem] theorem cx_ref07_Turned_E : cx_ref07_Turned.E = E := rfl
@[go_sem] theorem cx_ref07_Turned_cs : cx_ref07_Turned.cs = [] := rfl
@[go_sem] theorem cx_ref07_Turned_sch : cx_ref07_Turned.sch = [(1, false, .take 0 (.take 1 (.take 2 (.take 3 (.take 4 (.take 5 (.take 6 (.take 7 (.take 8 (.done))))))))))] := rfl
@[go_sem] theorem cx_ref07_Turned_ob (d : Nat) : (cx_ref07_Turned.ob).contains d = false := rfl
theorem cok_ref07_Turned : COk Try.prog (cx_ref07_Turned) := cok_of rfl (.nil) (.nil) (.nil)
theorem ok_ref07_Turned : Ok Try.prog 87 c_ref07_Turned := by
  refine ok_fn2 cok_ref07_Turned mixed Try.func87 rfl (by kernel_rfl) (by kernel_rfl) rfl ?_
  intro x k om hw hk
  subst hk
  simp only [go_sem, Try.f87, Nat.reduceEqDiff, Nat.reduceBEq, Int.reduceToNat, Nat.reducePow, Nat.reduceMod, Nat.reduceAdd, Nat.reduceSub, Nat.reduceMul, Nat.reduceDiv, Nat.reduceLeDiff, Int.reduceAdd, Int.reduceSub, Int.reduceMul, Int.reduceDiv, Int.reduceMod, Int.reduceLE, Int.reduceLT, Int.reduceNeg, Int.reduceEq, Int.cast_ofNat_Int, Int.natCast_zero, List.contains_cons, List.contains_nil, Bool.or_false, Bool.or_true, Bool.true_or, reduceCtorEq, or_false, or_true, false_or, true_or, and_false, false_and, ne_eq, List.take_zero, List.take_succ_cons, List.take_nil, List.drop_zero, List.drop_succ_cons, List.drop_nil, decide_true, decide_false]
  rfl

noncomputable def c_xosh_Step : Cn := fn1 tX (fun _ => True) fun s => vX (xstep s)
noncomputable def cx_xosh_Step : Cx := { T := T, E := E, cs := [(86, c_math_bits_RotateLeft64)], sch := [], ob := [], qs := [86] }
@[go_sem] theorem cx_xosh_Step_md : cx_xosh_Step.md = 0 := rfl
@[go_sem] theorem cx_xosh_Step_T : cx_xosh_Step.T = T := rfl
@[go_sem] theorem cx_xosh_Step_E : cx_xosh_Step.E = E := rfl
@[go_sem] theorem cx_xosh_Step_cs : cx_xosh_Step.cs = [(86, c_math_bits_RotateLeft64)] := rfl
@[go_sem] theorem cx_xosh_Step_ob (d : Nat) : (cx_xosh_Step.ob).contains d = false := rfl
theorem cok_xosh_Step : COk Try.prog (cx_xosh_Step) := cok_of rfl (.cons ok_math_bits_RotateLeft64 (.nil)) (.cons (fun _ => fn2_quiet) (.nil)) (.nil)
theorem ok_xosh_Step : Ok Try.prog 68 c_xosh_Step := by
  refine ok_fn1 cok_xosh_Step mixed Try.func68 rfl (by kernel_rfl) (by kernel_rfl) rfl ?_
  intro s om hw _
  simp only [go_sem, Try.f68, Nat.reduceEqDiff, Nat.reduceBEq, Int.reduceToNat, Nat.reducePow, Nat.reduceMod, Nat.reduceAdd, Nat.reduceSub, Nat.reduceMul, Nat.reduceDiv, Nat.reduceLeDiff, Int.reduceAdd, Int.reduceSub, Int.reduceMul, Int.reduceDiv, Int.reduceMod, Int.reduceLE, Int.reduceLT, Int.reduceNeg, Int.reduceEq, Int.cast_ofNat_Int, Int.natCast_zero, List.contains_cons, List.contains_nil, Bool.or_false, Bool.or_true, Bool.true_or, reduceCtorEq, or_false, or_true, false_or, true_or, and_false, false_and, ne_eq, List.take_zero, List.take_succ_cons, List.take_nil, List.drop_zero, List.drop_succ_cons, List.drop_nil, decide_true, decide_false, c_math_bits_RotateLeft64]
  have hr : rot (s.d ^^^ s.b) < 18446744073709551616 := rot_lt ((wf_x hw).d_xor_b)
  repeat' (first | with_reducible refine And.intro ?_ ?_ | with_reducible intro _)
  all_goals first | omega | rfl

noncomputable def c_ref07_Step : Cn := fn1 tX (fun _ => True) fun s => vX (xstep s)
noncomputable def cx_ref07_Step : Cx := { T := T, E := E, cs := [(87, c_ref07_Turned)], sch := [], ob := [], qs := [87] }
@[go_sem] theorem cx_ref07_Step_md : cx_ref07_Step.md = 0 := rfl
@[go_sem] theorem cx_ref07_Step_T : cx_ref07_Step.T = T := rfl
@[go_sem] theorem cx_ref07_Step_E : cx_ref07_Step.E = E := rfl
@[go_sem] theorem cx_ref07_Step_cs : cx_ref07_Step.cs = [(87, c_ref07_Turned)] := rfl
@[go_sem] theorem cx_ref07_Step_ob (d : Nat) : (cx_ref07_Step.ob).contains d = false := rfl
theorem cok_ref07_Step : COk Try.prog (cx_ref07_Step) := cok_of rfl (.cons ok_ref07_Turned (.nil)) (.cons (fun _ => fn2_quiet) (.nil)) (.nil)
theorem ok_ref07_Step : Ok Try.prog 72 c_ref07_Step := by
  refine ok_fn1 cok_ref07_Step mixed Try.func72 rfl (by kernel_rfl) (by kernel_rfl) rfl ?_
  intro s om hw _
  simp only [go_sem, Try.f72, Nat.reduceEqDiff, Nat.reduceBEq, Int.reduceToNat, Nat.reducePow, Nat.reduceMod, Nat.reduceAdd, Nat.reduceSub, Nat.reduceMul, Nat.reduceDiv, Nat.reduceLeDiff, Int.reduceAdd, Int.reduceSub, Int.reduceMul, Int.reduceDiv, Int.reduceMod, Int.reduceLE, Int.reduceLT, Int.reduceNeg, Int.reduceEq, Int.cast_ofNat_Int, Int.natCast_zero, List.contains_cons, List.contains_nil, Bool.or_false, Bool.or_true, Bool.true_or, reduceCtorEq, or_false, or_true, false_or, true_or, and_false, false_and, ne_eq, List.take_zero, List.take_succ_cons, List.take_nil, List.drop_zero, List.drop_succ_cons, List.drop_nil, decide_true, decide_false, c_ref07_Turned]
  have hr : rot (s.d ^^^ s.b) < 18446744073709551616 := rot_lt ((wf_x hw).d_xor_b)
  repeat' (first | with_reducible refine And.intro ?_ ?_ | with_reducible intro _)
  all_goals first | omega | rfl

noncomputable def c_xosh_Right : Cn := fn1 tX (fun _ => True) fun s => .b (decide (s ≠ x0))
noncomputable def cx_xosh_Right : Cx := { T := T, E := E, cs := [], sch := [], ob := [], qs := [] }
@[go_sem] theorem cx_xosh_Right_md : cx_xosh_Right.md = 0 := rfl
@[go_sem] theorem cx_xosh_Right_T : cx_xosh_Right.T = T := rfl
@[go_sem] theorem cx_xosh_Right_E : cx_xosh_Right.E = E := rfl
@[go_sem] theorem cx_xosh_Right_cs : cx_xosh_Right.cs = [] := rfl
@[go_sem] theorem cx_xosh_Right_ob (d : Nat) : (cx_xosh_Right.ob).contains d = false := rfl
theorem cok_xosh_Right : COk Try.prog (cx_xosh_Right) := cok_of rfl (.nil) (.nil) (.nil)
theorem ok_xosh_Right : Ok Try.prog 48 c_xosh_Right := by
  refine ok_fn1 cok_xosh_Right mixed Try.func48 rfl (by kernel_rfl) (by kernel_rfl) rfl ?_
  intro s om hw _
  simp only [go_sem, Try.f48, Nat.reduceEqDiff, Nat.reduceBEq, Int.reduceToNat, Nat.reducePow, Nat.reduceMod, Nat.reduceAdd, Nat.reduceSub, Nat.reduceMul, Nat.reduceDiv, Nat.reduceLeDiff, Int.reduceAdd, Int.reduceSub, Int.reduceMul, Int.reduceDiv, Int.reduceMod, Int.reduceLE, Int.reduceLT, Int.reduceNeg, Int.reduceEq, Int.cast_ofNat_Int, Int.natCast_zero, List.contains_cons, List.contains_nil, Bool.or_false, Bool.or_true, Bool.true_or, reduceCtorEq, or_false, or_true, false_or, true_or, and_false, false_and, ne_eq, List.take_zero, List.take_succ_cons, List.take_nil, List.drop_zero, List.drop_succ_cons, List.drop_nil, decide_true, decide_false]
  refine ⟨by omega, ?_⟩
  have : (s.a = 0 ∧ s.b = 0 ∧ s.c = 0 ∧ s.d = 0) ↔ s = x0 := by
    cases s; simp [x0]
  by_cases h : s = x0
  · rw [decide_eq_true (this.2 h)]; simp [h]
  · rw [decide_eq_false (fun e => h (this.1 e))]; simp [h]

noncomputable def c_ref08_Add : Cn := fn2 tX tX (fun _ _ => True) fun s t => vX (xadd s t)
noncomputable def cx_ref08_Add : Cx := { T := T, E := E, cs := [], sch := [], ob := [], qs := [] }
@[go_sem] theorem cx_ref08_Add_md : cx_ref08_Add.md = 0 := rfl
@[go_sem] theorem cx_ref08_Add_T : cx_ref08_Add.T = T := rfl
@[go_sem] theorem cx_ref08_Add_E : cx_ref08_Add.E = E := rfl
@[go_sem] theorem cx_ref08_Add_cs : cx_ref08_Add.cs = [] := rfl
@[go_sem] theorem cx_ref08_Add_ob (d : Nat) : (cx_ref08_Add.ob).contains d = false := rfl
theorem cok_ref08_Add : COk Try.prog (cx_ref08_Add) := cok_of rfl (.nil) (.nil) (.nil)
theorem ok_ref08_Add : Ok Try.prog 71 c_ref08_Add := by
  refine ok_fn2 cok_ref08_Add mixed Try.func71 rfl (by kernel_rfl) (by kernel_rfl) rfl ?_
  intro s t om hw _
  simp only [go_sem, Try.f71, Nat.reduceEqDiff, Nat.reduceBEq, Int.reduceToNat, Nat.reducePow, Nat.reduceMod, Nat.reduceAdd, Nat.reduceSub, Nat.reduceMul, Nat.reduceDiv, Nat.reduceLeDiff, Int.reduceAdd, Int.reduceSub, Int.reduceMul, Int.reduceDiv, Int.reduceMod, Int.reduceLE, Int.reduceLT, Int.reduceNeg, Int.reduceEq, Int.cast_ofNat_Int, Int.natCast_zero, List.contains_cons, List.contains_nil, Bool.or_false, Bool.or_true, Bool.true_or, reduceCtorEq, or_false, or_true, false_or, true_or, and_false, false_and, ne_eq, List.take_zero, List.take_succ_cons, List.take_nil, List.drop_zero, List.drop_succ_cons, List.drop_nil, decide_true, decide_false]
  repeat' (first | with_reducible refine And.intro ?_ ?_ | with_reducible intro _)
  all_goals first | omega | rfl

noncomputable def c_xosh_Add : Cn := fn2 tX tX (fun _ _ => True) fun s t => vX (xadd s t)
noncomputable def cx_xosh_Add : Cx := { T := T, E := E, cs := [], sch := [], ob := [], qs := [] }
@[go_sem] theorem cx_xosh_Add_md : cx_xosh_Add.md = 0 := rfl
@[go_sem] theorem cx_xosh_Add_T : cx_xosh_Add.T = T := rfl
@[go_sem] theorem cx_xosh_Add_E : cx_xosh_Add.E = E := rfl
@[go_sem] theorem cx_xosh_Add_cs : cx_xosh_Add.cs = [] := rfl
@[go_sem] theorem cx_xosh_Add_ob (d : Nat) : (cx_xosh_Add.ob).contains d = false := rfl
theorem cok_xosh_Add : COk Try.prog (cx_xosh_Add) := cok_of rfl (.nil) (.nil) (.nil)
theorem ok_xosh_Add : Ok Try.prog 53 c_xosh_Add := by
  refine ok_fn2 cok_xosh_Add mixed Try.func53 rfl (by kernel_rfl) (by kernel_rfl) rfl ?_
  intro s t om hw _
  simp only [go_sem, Try.f53, Nat.reduceEqDiff, Nat.reduceBEq, Int.reduceToNat, Nat.reducePow, Nat.reduceMod, Nat.reduceAdd, Nat.reduceSub, Nat.reduceMul, Nat.reduceDiv, Nat.reduceLeDiff, Int.reduceAdd, Int.reduceSub, Int.reduceMul, Int.reduceDiv, Int.reduceMod, Int.reduceLE, Int.reduceLT, Int.reduceNeg, Int.reduceEq, Int.cast_ofNat_Int, Int.natCast_zero, List.contains_cons, List.contains_nil, Bool.or_false, Bool.or_true, Bool.true_or, reduceCtorEq, or_false, or_true, false_or, true_or, and_false, false_and, ne_eq, List.take_zero, List.take_succ_cons, List.take_nil, List.drop_zero, List.drop_succ_cons, List.drop_nil, decide_true, decide_false]
  refine ⟨by omega, ?_⟩
  refine ⟨Nat, fun k => ⟨[.u, .u, .ref 2 1 4 0 0, .u, .ref 4 1 4 0 0, .u, .u, vX t, .z k, .u, .u, .u, .u, .u, .u, .u, .u, .u, .u, .u], [(4, ⟨4, true, [vX x0], false⟩), (2, ⟨4, true, [vX (addK s t k)], false⟩)], om⟩, fun k => k ≤ 4, fun k => 4 - k, ⟨0, by omega, ?_⟩, ?_⟩
  · simp only [go_sem, Nat.reduceEqDiff, Nat.reduceBEq, Int.reduceToNat, Nat.reducePow, Nat.reduceMod, Nat.reduceAdd, Nat.reduceSub, Nat.reduceMul, Nat.reduceDiv, Nat.reduceLeDiff, Int.reduceAdd, Int.reduceSub, Int.reduceMul, Int.reduceDiv, Int.reduceMod, Int.reduceLE, Int.reduceLT, Int.reduceNeg, Int.reduceEq, Int.cast_ofNat_Int, Int.natCast_zero, List.contains_cons, List.contains_nil, Bool.or_false, Bool.or_true, Bool.true_or, reduceCtorEq, or_false, or_true, false_or, true_or, and_false, false_and, ne_eq, List.take_zero, List.take_succ_cons, List.take_nil, List.drop_zero, List.drop_succ_cons, List.drop_nil, decide_true, decide_false, addK, x0]
  · intro k hk
    have : k = 0 ∨ k = 1 ∨ k = 2 ∨ k = 3 ∨ k = 4 := by omega
    rcases this with rfl | rfl | rfl | rfl | rfl
    all_goals simp only [go_sem, Nat.reduceEqDiff, Nat.reduceBEq, Int.reduceToNat, Nat.reducePow, Nat.reduceMod, Nat.reduceAdd, Nat.reduceSub, Nat.reduceMul, Nat.reduceDiv, Nat.reduceLeDiff, Int.reduceAdd, Int.reduceSub, Int.reduceMul, Int.reduceDiv, Int.reduceMod, Int.reduceLE, Int.reduceLT, Int.reduceNeg, Int.reduceEq, Int.cast_ofNat_Int, Int.natCast_zero, List.contains_cons, List.contains_nil, Bool.or_false, Bool.or_true, Bool.true_or, reduceCtorEq, or_false, or_true, false_or, true_or, and_false, false_and, ne_eq, List.take_zero, List.take_succ_cons, List.take_nil, List.drop_zero, List.drop_succ_cons, List.drop_nil, decide_true, decide_false, addK]
    · exact ⟨by omega, by omega, 1, by omega, ⟨rfl, rfl, rfl, rfl, rfl⟩, by omega⟩
    · exact ⟨by omega, by omega, 2, by omega, ⟨rfl, rfl, rfl, rfl, rfl⟩, by omega⟩
    · exact ⟨by omega, by omega, 3, by omega, ⟨rfl, rfl, rfl, rfl, rfl⟩, by omega⟩
    · exact ⟨by omega, by omega, 4, by omega, ⟨rfl, rfl, rfl, rfl, rfl⟩, by omega⟩
    · exact ⟨by omega, by omega, by omega, rfl, rfl, rfl, rfl⟩
end Go.Proofs.Ytaojebdjkpdcdaa.I
