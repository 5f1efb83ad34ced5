/- The references of layers 1 and 2: Word, Of, Add, Up, Mul. -/
import Derived.Test.YtaojebdjkpdcdaaRef1
namespace Go.Proofs.Ytaojebdjkpdcdaa.I
open Go
set_option maxRecDepth 10000
set_option linter.unusedSimpArgs false
set_option linter.unusedVariables false

theorem shr_low (n m k : Nat) : n >>> m % 2 ^ (k + 1) = 2 * (n >>> (m + 1) % 2 ^ k) + (if n.testBit m then 1 else 0) := by
  rw [Nat.shiftRight_succ, Nat.pow_succ, Nat.mul_comm (2 ^ k) 2, Nat.mod_mul]
  have : n >>> m % 2 = if n.testBit m then 1 else 0 := by rw [← shr_and, Nat.and_one_is_mod]
  omega

def c_ref01_Word : Cn := fn2 tZs tZ (fun l i => good l ∧ 0 ≤ i ∧ i ≤ 1099511627776) fun l i => .n .u64 (bv l >>> i.toNat % 18446744073709551616)
noncomputable def cx_ref01_Word : Cx := { T := T, E := E, cs := [], sch := [], ob := [], qs := [] }
@[go_sem] theorem cx_ref01_Word_md : cx_ref01_Word.md = 0 := rfl
@[go_sem] theorem cx_ref01_Word_T : cx_ref01_Word.T = T := rfl
@[go_sem] theorem cx_ref01_Word_E : cx_ref01_Word.E = E := rfl
@[go_sem] theorem cx_ref01_Word_cs : cx_ref01_Word.cs = [] := rfl
@[go_sem] theorem cx_ref01_Word_ob (d : Nat) : (cx_ref01_Word.ob).contains d = false := rfl
theorem cok_ref01_Word : COk Try.prog (cx_ref01_Word) := cok_of rfl (.nil) (.nil) (.nil)
theorem ok_ref01_Word : Ok Try.prog 58 c_ref01_Word := by
  refine ok_fn2 cok_ref01_Word mixed Try.func58 rfl (by kernel_rfl) (by kernel_rfl) rfl ?_
  intro l i om hw ⟨hg, h0, hi⟩
  obtain ⟨f, rfl⟩ := Int.eq_ofNat_of_zero_le h0
  simp only [go_sem, Try.f58, Nat.reduceEqDiff, Nat.reduceBEq, Int.reduceToNat, Nat.reducePow, Nat.reduceMod, Nat.reduceAdd, Nat.reduceSub, Nat.reduceMul, Nat.reduceDiv, Nat.reduceLeDiff, Int.reduceAdd, Int.reduceSub, Int.reduceMul, Int.reduceDiv, Int.reduceMod, Int.reduceLE, Int.reduceLT, Int.reduceNeg, Int.reduceEq, Int.cast_ofNat_Int, Int.natCast_zero, List.contains_cons, List.contains_nil, Bool.or_false, Bool.or_true, Bool.true_or, reduceCtorEq, or_false, or_true, false_or, true_or, and_false, false_and, ne_eq, List.take_zero, List.take_succ_cons, List.take_nil, List.drop_zero, List.drop_succ_cons, List.drop_nil, decide_true, decide_false]
  refine ⟨Nat, fun k => ⟨[.sl (els V.z l), .z f, .u, .u, .u, .n .u64 (bv l >>> (f + k) % 2 ^ (64 - k)), .z ((k : Int) - 1), .u, .u, .u, .u, .u, .u, .u, .u, .u, .u, .u, .u, .u, .u, .u, .u, .u, .u, .u, .u, .u, .u], [], om⟩, fun k => k ≤ 64, fun k => k, ⟨64, by omega, ?_⟩, ?_⟩
  · simp only [go_sem, Nat.reduceEqDiff, Nat.reduceBEq, Int.reduceToNat, Nat.reducePow, Nat.reduceMod, Nat.reduceAdd, Nat.reduceSub, Nat.reduceMul, Nat.reduceDiv, Nat.reduceLeDiff, Int.reduceAdd, Int.reduceSub, Int.reduceMul, Int.reduceDiv, Int.reduceMod, Int.reduceLE, Int.reduceLT, Int.reduceNeg, Int.reduceEq, Int.cast_ofNat_Int, Int.natCast_zero, List.contains_cons, List.contains_nil, Bool.or_false, Bool.or_true, Bool.true_or, reduceCtorEq, or_false, or_true, false_or, true_or, and_false, false_and, ne_eq, List.take_zero, List.take_succ_cons, List.take_nil, List.drop_zero, List.drop_succ_cons, List.drop_nil, decide_true, decide_false, Nat.mod_one]
  · intro k hk
    simp only [go_sem, Nat.reduceEqDiff, Nat.reduceBEq, Int.reduceToNat, Nat.reducePow, Nat.reduceMod, Nat.reduceAdd, Nat.reduceSub, Nat.reduceMul, Nat.reduceDiv, Nat.reduceLeDiff, Int.reduceAdd, Int.reduceSub, Int.reduceMul, Int.reduceDiv, Int.reduceMod, Int.reduceLE, Int.reduceLT, Int.reduceNeg, Int.reduceEq, Int.cast_ofNat_Int, Int.natCast_zero, List.contains_cons, List.contains_nil, Bool.or_false, Bool.or_true, Bool.true_or, reduceCtorEq, or_false, or_true, false_or, true_or, and_false, false_and, ne_eq, List.take_zero, List.take_succ_cons, List.take_nil, List.drop_zero, List.drop_succ_cons, List.drop_nil, decide_true, decide_false]
    have e : 0 < k → ((f : Int) + ((k : Int) - 1)).toNat = f + (k - 1) := fun h => by omega
    have lt : bv l >>> (f + k) % 2 ^ (64 - k) < 2 ^ (64 - k) := Nat.mod_lt _ (Nat.pow_pos (by omega))
    have step : 0 < k → bv l >>> (f + (k - 1)) % 2 ^ (64 - (k - 1)) = 2 * (bv l >>> (f + k) % 2 ^ (64 - k)) + (if (bv l).testBit (f + (k - 1)) then 1 else 0) := fun h => by
      have := shr_low (bv l) (f + (k - 1)) (64 - k)
      rw [show f + (k - 1) + 1 = f + k by omega, show 64 - k + 1 = 64 - (k - 1) by omega] at this
      exact this
    have p2 : 0 < k → 2 * 2 ^ (64 - k) ≤ 18446744073709551616 := fun h => by
      rw [← Nat.pow_succ', show (18446744073709551616 : Nat) = 2 ^ 64 by rfl]
      exact Nat.pow_le_pow_right (by omega) (by omega)
    refine ⟨fun h => ⟨by omega, fun h1 => ⟨by omega, by omega, by omega, k - 1, by omega, ⟨?_, by omega⟩, by omega⟩, fun h1 => ⟨by omega, k - 1, by omega, ⟨?_, by omega⟩, by omega⟩⟩, fun h => ?_⟩
    · rw [e (by omega), step (by omega), getD_bv hg]
      unfold bitI
      have := p2 (by omega)
      cases (bv l).testBit (f + (k - 1))
      · simp; omega
      · simp; omega
    · rw [step (by omega)]
      have : (bv l).testBit (f + (k - 1)) = false := testBit_bl (by have := bl_bv l; omega)
      have := p2 (by omega)
      simp [*]; omega
    · obtain rfl : k = 0 := by omega
      rfl

def c_ref02_Of : Cn := fn1 tZs (fun l => good l ∧ l.length ≤ 1099511627) fun l => vP (bv l)
noncomputable def cx_ref02_Of : Cx := { T := T, E := E, cs := [(57, c_ref02_Trim), (58, c_ref01_Word)], sch := [], ob := [], qs := [57, 58] }
@[go_sem] theorem cx_ref02_Of_md : cx_ref02_Of.md = 0 := rfl
@[go_sem] theorem cx_ref02_Of_T : cx_ref02_Of.T = T := rfl
@[go_sem] theorem cx_ref02_Of_E : cx_ref02_Of.E = E := rfl
@[go_sem] theorem cx_ref02_Of_cs : cx_ref02_Of.cs = [(57, c_ref02_Trim), (58, c_ref01_Word)] := rfl
@[go_sem] theorem cx_ref02_Of_ob (d : Nat) : (cx_ref02_Of.ob).contains d = false := rfl
theorem cok_ref02_Of : COk Try.prog (cx_ref02_Of) := cok_of rfl (.cons ok_ref02_Trim (.cons ok_ref01_Word (.nil))) (.cons (fun _ => fn1_quiet) (.cons (fun _ => fn2_quiet) (.nil))) (.nil)
theorem ok_ref02_Of : Ok Try.prog 20 c_ref02_Of := by
  refine ok_fn1 cok_ref02_Of mixed Try.func20 rfl (by kernel_rfl) (by kernel_rfl) rfl ?_
  intro l om hw ⟨hg, hl⟩
  have hb := bl_bv l
  simp only [go_sem, Try.f20, Nat.reduceEqDiff, Nat.reduceBEq, Int.reduceToNat, Nat.reducePow, Nat.reduceMod, Nat.reduceAdd, Nat.reduceSub, Nat.reduceMul, Nat.reduceDiv, Nat.reduceLeDiff, Int.reduceAdd, Int.reduceSub, Int.reduceMul, Int.reduceDiv, Int.reduceMod, Int.reduceLE, Int.reduceLT, Int.reduceNeg, Int.reduceEq, Int.cast_ofNat_Int, Int.natCast_zero, List.contains_cons, List.contains_nil, Bool.or_false, Bool.or_true, Bool.true_or, reduceCtorEq, or_false, or_true, false_or, true_or, and_false, false_and, ne_eq, List.take_zero, List.take_succ_cons, List.take_nil, List.drop_zero, List.drop_succ_cons, List.drop_nil, decide_true, decide_false, c_ref02_Trim, c_ref01_Word]
  refine ⟨⟨hg, by omega⟩, fun _ => ?_⟩
  refine ⟨Nat, fun k => ⟨[.sl (els V.z (pb (bv l))), .u, .u, .row 19 k k, .z (64 * k : Nat), .u, .u, .u, .u, .u, .u, .u, .u, .u, .u, .u, .u, .u, .u, .u, .u], [(19, ⟨1, false, els (V.n .u64) (wds k (bv l)), false⟩)], om⟩, fun k => k ≤ (bl (bv l) + 63) / 64, fun k => (bl (bv l) + 63) / 64 - k, ⟨0, by omega, ?_⟩, ?_⟩
  · simp only [go_sem, Nat.reduceEqDiff, Nat.reduceBEq, Int.reduceToNat, Nat.reducePow, Nat.reduceMod, Nat.reduceAdd, Nat.reduceSub, Nat.reduceMul, Nat.reduceDiv, Nat.reduceLeDiff, Int.reduceAdd, Int.reduceSub, Int.reduceMul, Int.reduceDiv, Int.reduceMod, Int.reduceLE, Int.reduceLT, Int.reduceNeg, Int.reduceEq, Int.cast_ofNat_Int, Int.natCast_zero, List.contains_cons, List.contains_nil, Bool.or_false, Bool.or_true, Bool.true_or, reduceCtorEq, or_false, or_true, false_or, true_or, and_false, false_and, ne_eq, List.take_zero, List.take_succ_cons, List.take_nil, List.drop_zero, List.drop_succ_cons, List.drop_nil, decide_true, decide_false, c_ref02_Trim, c_ref01_Word]
    rfl
  · intro k hk
    simp only [go_sem, Nat.reduceEqDiff, Nat.reduceBEq, Int.reduceToNat, Nat.reducePow, Nat.reduceMod, Nat.reduceAdd, Nat.reduceSub, Nat.reduceMul, Nat.reduceDiv, Nat.reduceLeDiff, Int.reduceAdd, Int.reduceSub, Int.reduceMul, Int.reduceDiv, Int.reduceMod, Int.reduceLE, Int.reduceLT, Int.reduceNeg, Int.reduceEq, Int.cast_ofNat_Int, Int.natCast_zero, List.contains_cons, List.contains_nil, Bool.or_false, Bool.or_true, Bool.true_or, reduceCtorEq, or_false, or_true, false_or, true_or, and_false, false_and, ne_eq, List.take_zero, List.take_succ_cons, List.take_nil, List.drop_zero, List.drop_succ_cons, List.drop_nil, decide_true, decide_false, c_ref02_Trim, c_ref01_Word]
    refine ⟨fun h => ⟨by omega, fun _ => ⟨by omega, by omega, by omega, k + 1, by omega, ⟨⟨rfl, by omega⟩, ?_⟩, by omega⟩⟩, fun h => ?_⟩
    · rw [← wds_snoc, wdAt_eq]
    · rw [wd_wds]; congr 1; omega

def c_ref02_Add : Cn := fn2 tZs tZs (fun l m => good l ∧ good m ∧ l.length ≤ 1099511627 ∧ m.length ≤ 1099511627) fun l m => vB (bv l ^^^ bv m)
def c_ref02_Up : Cn := fn2 tZs tZ (fun l n => good l ∧ l.length ≤ 1099511627 ∧ n ≤ 1099511627) fun l n => vB (bv l <<< n.toNat)
def c_ref02_Mul : Cn := fn2 tZs tZs (fun l m => good l ∧ good m ∧ l.length ≤ 1099511627 ∧ m.length ≤ 1099511627) fun l m => vB (cm (bv l) (bv m))
noncomputable def cx_ref02_Mul : Cx := { T := T, E := E, cs := [(57, c_ref02_Trim)], sch := [(12, false, .take 0 (.take 1 (.take 2 (.take 3 (.take 4 (.take 5 (.take 6 (.take 7 (.take 8 (.take 9 (.take 10 (.take 11 (.take 12 (.take 13 (.take 14 (.take 15 (.take 16 (.alt 17 (.done) .no))))))))))))))))))], ob := [], qs := [57] }
@[go_sem] theorem cx_ref02_Mul_md : cx_ref02_Mul.md = 0 := rfl
@[go_sem] theorem cx_ref02_Mul_T : cx_ref02_Mul.T = T := rfl
@[go_sem] theorem cx_ref02_Mul_E : cx_ref02_Mul.E = E := rfl
@[go_sem] theorem cx_ref02_Mul_cs : cx_ref02_Mul.cs = [(57, c_ref02_Trim)] := rfl
@[go_sem] theorem cx_ref02_Mul_sch : cx_ref02_Mul.sch = [(12, false, .take 0 (.take 1 (.take 2 (.take 3 (.take 4 (.take 5 (.take 6 (.take 7 (.take 8 (.take 9 (.take 10 (.take 11 (.take 12 (.take 13 (.take 14 (.take 15 (.take 16 (.alt 17 (.done) .no))))))))))))))))))] := rfl
@[go_sem] theorem cx_ref02_Mul_ob (d : Nat) : (cx_ref02_Mul.ob).contains d = false := rfl
theorem cok_ref02_Mul : COk Try.prog (cx_ref02_Mul) := cok_of rfl (.cons ok_ref02_Trim (.nil)) (.cons (fun _ => fn1_quiet) (.nil)) (.nil)
theorem ok_ref02_Mul : Ok Try.prog 25 c_ref02_Mul := by
  refine ok_fn2 cok_ref02_Mul mixed Try.func25 rfl (by kernel_rfl) (by kernel_rfl) rfl ?_
  intro l m om hw ⟨hg, hg', hl, hl'⟩
  simp only [go_sem, Try.f25, Nat.reduceEqDiff, Nat.reduceBEq, Int.reduceToNat, Nat.reducePow, Nat.reduceMod, Nat.reduceAdd, Nat.reduceSub, Nat.reduceMul, Nat.reduceDiv, Nat.reduceLeDiff, Int.reduceAdd, Int.reduceSub, Int.reduceMul, Int.reduceDiv, Int.reduceMod, Int.reduceLE, Int.reduceLT, Int.reduceNeg, Int.reduceEq, Int.cast_ofNat_Int, Int.natCast_zero, List.contains_cons, List.contains_nil, Bool.or_false, Bool.or_true, Bool.true_or, reduceCtorEq, or_false, or_true, false_or, true_or, and_false, false_and, ne_eq, List.take_zero, List.take_succ_cons, List.take_nil, List.drop_zero, List.drop_succ_cons, List.drop_nil, decide_true, decide_false, c_ref02_Trim]
  refine ⟨Nat, fun k => ⟨[.sl (els V.z l), .sl (els V.z m), .u, .u, .u, .row 21 k k, .z k, .u, .u, .u, .u, .u, .u, .u, .u, .u, .u, .u, .u, .u, .u, .u, .u, .u, .u, .u, .u, .u, .u, .u, .u, .u, .u, .u, .u, .u, .u, .u, .u, .u, .u, .u, .u, .u, .u, .u, .u, .u, .u, .u, .u, .u, .u, .u, .u, .u, .u, .u, .u, .u], [(21, ⟨1, false, els V.z (bitsL k 0), false⟩)], om⟩, fun k => k ≤ l.length + m.length, fun k => l.length + m.length - k, ⟨0, by omega, ?_⟩, ?_⟩
  · simp only [go_sem, Nat.reduceEqDiff, Nat.reduceBEq, Int.reduceToNat, Nat.reducePow, Nat.reduceMod, Nat.reduceAdd, Nat.reduceSub, Nat.reduceMul, Nat.reduceDiv, Nat.reduceLeDiff, Int.reduceAdd, Int.reduceSub, Int.reduceMul, Int.reduceDiv, Int.reduceMod, Int.reduceLE, Int.reduceLT, Int.reduceNeg, Int.reduceEq, Int.cast_ofNat_Int, Int.natCast_zero, List.contains_cons, List.contains_nil, Bool.or_false, Bool.or_true, Bool.true_or, reduceCtorEq, or_false, or_true, false_or, true_or, and_false, false_and, ne_eq, List.take_zero, List.take_succ_cons, List.take_nil, List.drop_zero, List.drop_succ_cons, List.drop_nil, decide_true, decide_false, c_ref02_Trim]
    rfl
  · intro k hk
    simp only [go_sem, Nat.reduceEqDiff, Nat.reduceBEq, Int.reduceToNat, Nat.reducePow, Nat.reduceMod, Nat.reduceAdd, Nat.reduceSub, Nat.reduceMul, Nat.reduceDiv, Nat.reduceLeDiff, Int.reduceAdd, Int.reduceSub, Int.reduceMul, Int.reduceDiv, Int.reduceMod, Int.reduceLE, Int.reduceLT, Int.reduceNeg, Int.reduceEq, Int.cast_ofNat_Int, Int.natCast_zero, List.contains_cons, List.contains_nil, Bool.or_false, Bool.or_true, Bool.true_or, reduceCtorEq, or_false, or_true, false_or, true_or, and_false, false_and, ne_eq, List.take_zero, List.take_succ_cons, List.take_nil, List.drop_zero, List.drop_succ_cons, List.drop_nil, decide_true, decide_false, c_ref02_Trim]
    have := bits_snoc k 0
    rw [bitI_zero] at this
    rw [this]
    refine ⟨by omega, fun h => ⟨by omega, by omega, by omega, k + 1, by omega, ⟨⟨rfl, by omega⟩, rfl⟩, by omega⟩, fun h => ?_⟩
    obtain rfl : k = l.length + m.length := by omega
    clear h hk this
    obtain ⟨n, hn⟩ : ∃ n, l.length + m.length = n := ⟨_, rfl⟩
    rw [hn]
    refine ⟨Nat, fun i => ⟨[.sl (els V.z l), .sl (els V.z m), .u, .u, .u, .row 21 n n, .u, .z i, .u, .u, .u, .u, .u, .u, .u, .u, .u, .u, .u, .u, .u, .u, .u, .u, .u, .u, .u, .u, .u, .u, .u, .u, .u, .u, .u, .u, .u, .u, .u, .u, .u, .u, .u, .u, .u, .u, .u, .u, .u, .u, .u, .u, .u, .u, .u, .u, .u, .u, .u, .u], [(21, ⟨1, false, els V.z (bitsL n (cm (bv l) (bv (m.take i)))), false⟩)], om⟩, fun i => i ≤ m.length, fun i => m.length - i, ⟨0, by omega, ?_⟩, ?_⟩
    · simp only [go_sem, Nat.reduceEqDiff, Nat.reduceBEq, Int.reduceToNat, Nat.reducePow, Nat.reduceMod, Nat.reduceAdd, Nat.reduceSub, Nat.reduceMul, Nat.reduceDiv, Nat.reduceLeDiff, Int.reduceAdd, Int.reduceSub, Int.reduceMul, Int.reduceDiv, Int.reduceMod, Int.reduceLE, Int.reduceLT, Int.reduceNeg, Int.reduceEq, Int.cast_ofNat_Int, Int.natCast_zero, List.contains_cons, List.contains_nil, Bool.or_false, Bool.or_true, Bool.true_or, reduceCtorEq, or_false, or_true, false_or, true_or, and_false, false_and, ne_eq, List.take_zero, List.take_succ_cons, List.take_nil, List.drop_zero, List.drop_succ_cons, List.drop_nil, decide_true, decide_false, c_ref02_Trim, List.take_zero, cm_zero_right]
    · intro i hi
      simp only [go_sem, Nat.reduceEqDiff, Nat.reduceBEq, Int.reduceToNat, Nat.reducePow, Nat.reduceMod, Nat.reduceAdd, Nat.reduceSub, Nat.reduceMul, Nat.reduceDiv, Nat.reduceLeDiff, Int.reduceAdd, Int.reduceSub, Int.reduceMul, Int.reduceDiv, Int.reduceMod, Int.reduceLE, Int.reduceLT, Int.reduceNeg, Int.reduceEq, Int.cast_ofNat_Int, Int.natCast_zero, List.contains_cons, List.contains_nil, Bool.or_false, Bool.or_true, Bool.true_or, reduceCtorEq, or_false, or_true, false_or, true_or, and_false, false_and, ne_eq, List.take_zero, List.take_succ_cons, List.take_nil, List.drop_zero, List.drop_succ_cons, List.drop_nil, decide_true, decide_false, c_ref02_Trim]
      refine ⟨fun h => ?_, fun h => ?_⟩
      · obtain ⟨M, hM⟩ : ∃ M, cm (bv l) (bv (m.take i)) = M := ⟨_, rfl⟩
        have hM1 : cm (bv l) (bv (m.take (i + 1))) = M ^^^ (if m.getD i 0 = 1 then bv l <<< i else 0) := by
          rw [take_snoc_getD (by omega) 0, bv_append, cm_xor_right, hM, cm_shl_right, List.length_take, Nat.min_eq_left hi, bv, bv]
          congr 1
          split
          · rw [cm_one_right]
          · rw [cm_zero_right]; simp
        rw [hM]
        refine ⟨Nat, fun k => ⟨[.sl (els V.z l), .sl (els V.z m), .u, .u, .u, .row 21 n n, .u, .z i, .z k, .u, .u, .u, .u, .u, .u, .u, .u, .u, .u, .u, .u, .u, .u, .u, .u, .u, .u, .u, .u, .u, .u, .u, .u, .u, .u, .u, .u, .u, .u, .u, .u, .u, .u, .u, .u, .u, .u, .u, .u, .u, .u, .u, .u, .u, .u, .u, .u, .u, .u, .u], [(21, ⟨1, false, els V.z (bitsL n (M ^^^ (if m.getD i 0 = 1 then bv (l.take k) <<< i else 0))), false⟩)], om⟩, fun k => k ≤ l.length, fun k => l.length - k, ⟨0, by omega, ?_⟩, ?_⟩
        · simp only [go_sem, Nat.reduceEqDiff, Nat.reduceBEq, Int.reduceToNat, Nat.reducePow, Nat.reduceMod, Nat.reduceAdd, Nat.reduceSub, Nat.reduceMul, Nat.reduceDiv, Nat.reduceLeDiff, Int.reduceAdd, Int.reduceSub, Int.reduceMul, Int.reduceDiv, Int.reduceMod, Int.reduceLE, Int.reduceLT, Int.reduceNeg, Int.reduceEq, Int.cast_ofNat_Int, Int.natCast_zero, List.contains_cons, List.contains_nil, Bool.or_false, Bool.or_true, Bool.true_or, reduceCtorEq, or_false, or_true, false_or, true_or, and_false, false_and, ne_eq, List.take_zero, List.take_succ_cons, List.take_nil, List.drop_zero, List.drop_succ_cons, List.drop_nil, decide_true, decide_false, c_ref02_Trim, List.take_zero, Nat.zero_shiftLeft, ite_self, Nat.xor_zero]
        · intro k hk
          simp only [go_sem, Nat.reduceEqDiff, Nat.reduceBEq, Int.reduceToNat, Nat.reducePow, Nat.reduceMod, Nat.reduceAdd, Nat.reduceSub, Nat.reduceMul, Nat.reduceDiv, Nat.reduceLeDiff, Int.reduceAdd, Int.reduceSub, Int.reduceMul, Int.reduceDiv, Int.reduceMod, Int.reduceLE, Int.reduceLT, Int.reduceNeg, Int.reduceEq, Int.cast_ofNat_Int, Int.natCast_zero, List.contains_cons, List.contains_nil, Bool.or_false, Bool.or_true, Bool.true_or, reduceCtorEq, or_false, or_true, false_or, true_or, and_false, false_and, ne_eq, List.take_zero, List.take_succ_cons, List.take_nil, List.drop_zero, List.drop_succ_cons, List.drop_nil, decide_true, decide_false, c_ref02_Trim]
          have e1 : ((i : Int) + k).toNat = i + k := by omega
          have hlk : l.getD k 0 = 0 ∨ l.getD k 0 = 1 := by rw [getD_bv hg]; exact bitI_01 _ _
          rw [e1]
          refine ⟨fun hlt => ⟨by omega, fun h1 => ?_, fun h1 => ⟨by omega, i + 1, by omega, ⟨by omega, ?_⟩, by omega⟩⟩, fun hge => ⟨by omega, i + 1, by omega, ⟨by omega, ?_⟩, by omega⟩⟩
          · have hb : (bitsL n (M ^^^ if m.getD i 0 = 1 then bv (List.take k l) <<< i else 0)).getD (i + k) 0 = 0 ∨ (bitsL n (M ^^^ if m.getD i 0 = 1 then bv (List.take k l) <<< i else 0)).getD (i + k) 0 = 1 := by
              rw [bits_getD _ _ _ (by omega)]; exact bitI_01 _ _
            refine ⟨by omega, by omega, by omega, by omega, by omega, by omega, by omega, by omega, by omega, by omega, k + 1, by omega, ⟨by omega, ?_⟩, by omega⟩
            rw [bits_upd' hlk (by omega), h1, if_pos rfl, if_pos rfl, bv_take_succ (by omega), shl_xor, Nat.xor_assoc]
            congr 3
            split
            · rw [Nat.shiftLeft_eq, ← Nat.pow_add, Nat.add_comm]
            · simp
          · rw [hM1, if_neg h1, if_neg h1]
          · rw [hM1, List.take_of_length_le (by omega)]
      · obtain rfl : i = m.length := by omega
        rw [List.take_length]
        refine ⟨by omega, fun _ => Nat.mod_eq_of_lt (bl_lt.1 ?_)⟩
        have := bl_cm_le (bv l) (bv m); have := bl_bv l; have := bl_bv m; omega
end Go.Proofs.Ytaojebdjkpdcdaa.I
