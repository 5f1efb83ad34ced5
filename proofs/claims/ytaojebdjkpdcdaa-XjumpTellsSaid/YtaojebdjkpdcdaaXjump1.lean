/- xjump: At. -/
import Derived.Test.YtaojebdjkpdcdaaXosh2
namespace Go.Proofs.Ytaojebdjkpdcdaa.I
open Go
set_option maxRecDepth 10000
set_option linter.unusedSimpArgs false
set_option linter.unusedVariables false

/-- What a polynomial tells of a state, its parts below n. -/
def xat (p : Nat) (s : X4) : Nat → X4
  | 0 => x0
  | n + 1 => if p.testBit n = true then xadd (xat p s n) (xst s n) else xat p s n
theorem tb_one' {n k : Nat} : tb n k = 1 ↔ n.testBit k = true := by
  unfold tb
  by_cases e : n.testBit k = true <;> simp [e]
noncomputable def c_xjump_At : Cn := fn2 tU tX (fun xs _ => xs.length ≤ 262144) fun xs s => vX (xat (pv xs) s (bl (pv xs)))
noncomputable def cx_xjump_At : Cx := { T := T, E := E, cs := [(26, c_gfp_Deg), (53, c_xosh_Add), (68, c_xosh_Step), (70, c_gfp_Bit)], sch := [], ob := [], qs := [26, 53, 68, 70] }
@[go_sem] theorem cx_xjump_At_md : cx_xjump_At.md = 0 := rfl
@[go_sem] theorem cx_xjump_At_T : cx_xjump_At.T = T := rfl
@[go_sem] theorem cx_xjump_At_E : cx_xjump_At.E = E := rfl
@[go_sem] theorem cx_xjump_At_cs : cx_xjump_At.cs = [(26, c_gfp_Deg), (53, c_xosh_Add), (68, c_xosh_Step), (70, c_gfp_Bit)] := rfl
@[go_sem] theorem cx_xjump_At_ob (d : Nat) : (cx_xjump_At.ob).contains d = false := rfl
theorem cok_xjump_At : COk Try.prog (cx_xjump_At) := cok_of rfl (.cons ok_gfp_Deg (.cons ok_xosh_Add (.cons ok_xosh_Step (.cons ok_gfp_Bit (.nil))))) (.cons (fun _ => fn1_quiet) (.cons (fun _ => fn2_quiet) (.cons (fun _ => fn1_quiet) (.cons (fun _ => fn2_quiet) (.nil))))) (.nil)
set_option maxHeartbeats 2000000 in
theorem ok_xjump_At : Ok Try.prog 42 c_xjump_At := by
  refine ok_fn2 cok_xjump_At mixed Try.func42 rfl (by kernel_rfl) (by kernel_rfl) rfl ?_
  intro xs s om hw hl
  have hx := (wf_u ⟨hw.1, trivial⟩).2
  have hb := bl_pv hx
  obtain ⟨p, hp⟩ : ∃ p, pv xs = p := ⟨_, rfl⟩
  rw [hp] at hb
  simp only [go_sem, Try.f42, Nat.reduceEqDiff, Nat.reduceBEq, Int.reduceToNat, Nat.reducePow, Nat.reduceMod, Nat.reduceAdd, Nat.reduceSub, Nat.reduceMul, Nat.reduceDiv, Nat.reduceLeDiff, Int.reduceAdd, Int.reduceSub, Int.reduceMul, Int.reduceDiv, Int.reduceMod, Int.reduceLE, Int.reduceLT, Int.reduceNeg, Int.reduceEq, Int.cast_ofNat_Int, Int.natCast_zero, List.contains_cons, List.contains_nil, Bool.or_false, Bool.or_true, Bool.true_or, reduceCtorEq, or_false, or_true, false_or, true_or, and_false, false_and, ne_eq, List.take_zero, List.take_succ_cons, List.take_nil, List.drop_zero, List.drop_succ_cons, List.drop_nil, decide_true, decide_false, c_gfp_Deg, c_xosh_Add, c_xosh_Step, c_gfp_Bit, hp]
  refine ⟨by omega, fun _ => ?_⟩
  refine ⟨Nat, fun k => ⟨[.sl (els (V.n .u64) xs), .u, .u, .ref 3 1 4 0 0, .ref 4 1 4 0 0, .ref 5 1 4 0 0, .z ((bl p : Int) - 1), .z k, .u, .u, .u, .u, .u, .u, .u, .u, .u, .u, .u, .u, .u, .u, .u, .u, .u], [(5, ⟨4, true, [vX (xat p s k)], false⟩), (4, ⟨4, true, [vX x0], false⟩), (3, ⟨4, true, [vX (xst s k)], false⟩)], om⟩, fun k => k ≤ bl p, fun k => bl p - k, ⟨0, Nat.zero_le _, ?_⟩, ?_⟩
  · simp only [go_sem, Nat.reduceEqDiff, Nat.reduceBEq, Int.reduceToNat, Nat.reducePow, Nat.reduceMod, Nat.reduceAdd, Nat.reduceSub, Nat.reduceMul, Nat.reduceDiv, Nat.reduceLeDiff, Int.reduceAdd, Int.reduceSub, Int.reduceMul, Int.reduceDiv, Int.reduceMod, Int.reduceLE, Int.reduceLT, Int.reduceNeg, Int.reduceEq, Int.cast_ofNat_Int, Int.natCast_zero, List.contains_cons, List.contains_nil, Bool.or_false, Bool.or_true, Bool.true_or, reduceCtorEq, or_false, or_true, false_or, true_or, and_false, false_and, ne_eq, List.take_zero, List.take_succ_cons, List.take_nil, List.drop_zero, List.drop_succ_cons, List.drop_nil, decide_true, decide_false, c_gfp_Deg, c_xosh_Add, c_xosh_Step, c_gfp_Bit, xat, xst, x0]
  · intro k hk
    have ht := tb_one' (n := p) (k := k)
    have s1 : p.testBit k = true → xat p s (k + 1) = xadd (xat p s k) (xst s k) := fun h => by rw [xat, if_pos h]
    have s2 : ¬ p.testBit k = true → xat p s (k + 1) = xat p s k := fun h => by rw [xat, if_neg h]
    simp only [go_sem, Nat.reduceEqDiff, Nat.reduceBEq, Int.reduceToNat, Nat.reducePow, Nat.reduceMod, Nat.reduceAdd, Nat.reduceSub, Nat.reduceMul, Nat.reduceDiv, Nat.reduceLeDiff, Int.reduceAdd, Int.reduceSub, Int.reduceMul, Int.reduceDiv, Int.reduceMod, Int.reduceLE, Int.reduceLT, Int.reduceNeg, Int.reduceEq, Int.cast_ofNat_Int, Int.natCast_zero, List.contains_cons, List.contains_nil, Bool.or_false, Bool.or_true, Bool.true_or, reduceCtorEq, or_false, or_true, false_or, true_or, and_false, false_and, ne_eq, List.take_zero, List.take_succ_cons, List.take_nil, List.drop_zero, List.drop_succ_cons, List.drop_nil, decide_true, decide_false, c_gfp_Deg, c_xosh_Add, c_xosh_Step, c_gfp_Bit, hp]
    refine ⟨fun h => ?_, fun h _ => ⟨fun g => ⟨by omega, by omega, fun _ => ⟨by omega, by omega, fun _ => ⟨by omega, by omega, k + 1, by omega, ⟨by omega, ?_, rfl, rfl, rfl, rfl⟩, by omega⟩⟩⟩, fun g => ⟨by omega, fun _ => ⟨by omega, by omega, k + 1, by omega, ⟨by omega, ?_, rfl, rfl, rfl, rfl⟩, by omega⟩⟩⟩⟩
    · rw [show k = bl p by omega]
      exact ⟨by omega, by omega, by omega, rfl, rfl, rfl, rfl⟩
    · rw [s1 (ht.1 g)]; exact ⟨rfl, rfl, rfl, rfl⟩
    · rw [s2 (fun e => g (ht.2 e))]; exact ⟨rfl, rfl, rfl, rfl⟩
end Go.Proofs.Ytaojebdjkpdcdaa.I
