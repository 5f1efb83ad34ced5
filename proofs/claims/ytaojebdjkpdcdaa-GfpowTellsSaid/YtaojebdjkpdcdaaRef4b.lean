/- The references of layers 1 and 4: Len; Pow, Plain, Irreducible. -/
import Derived.Test.YtaojebdjkpdcdaaRef4
namespace Go.Proofs.Ytaojebdjkpdcdaa.I
open Go
set_option maxRecDepth 10000
set_option linter.unusedSimpArgs false
set_option linter.unusedVariables false

theorem bl_low (x k : Nat) : bl (x % 2 ^ (k + 1)) = if x.testBit k = true then k + 1 else bl (x % 2 ^ k) := by
  have h2 : x.testBit k = decide (x / 2 ^ k % 2 = 1) := Nat.testBit_eq_decide_div_mod_eq
  have e : x % 2 ^ (k + 1) = x % 2 ^ k + 2 ^ k * (x / 2 ^ k % 2) := by rw [Nat.pow_succ, Nat.mod_mul]
  have hp := Nat.mod_lt x (Nat.two_pow_pos k)
  rw [h2]
  rcases Nat.mod_two_eq_zero_or_one (x / 2 ^ k) with h | h
  · rw [if_neg (by simp [h]), e, h]; rfl
  · rw [if_pos (by simp [h]), e, h, Nat.mul_one]
    refine bl_unique ?_ ?_
    · show 2 ^ k ≤ _; omega
    · rw [Nat.pow_succ]; omega

noncomputable def c_ref01_Len : Cn := fn1 tW (fun _ => True) fun x => .z (bl x)
noncomputable def cx_ref01_Len : Cx := { T := T, cs := [(46, c_ref01_List)], sch := [], ob := [], qs := [46] }
@[go_sem] theorem cx_ref01_Len_md : cx_ref01_Len.md = 0 := rfl
@[go_sem] theorem cx_ref01_Len_T : cx_ref01_Len.T = T := rfl
@[go_sem] theorem cx_ref01_Len_cs : cx_ref01_Len.cs = [(46, c_ref01_List)] := rfl
@[go_sem] theorem cx_ref01_Len_ob (d : Nat) : (cx_ref01_Len.ob).contains d = false := rfl
theorem cok_ref01_Len : COk Try.prog (cx_ref01_Len) := cok_of rfl (.cons ok_ref01_List (.nil)) (.cons (fun _ => fn1_quiet) (.nil)) (.nil)
theorem ok_ref01_Len : Ok Try.prog 23 c_ref01_Len := by
  refine ok_fn1 cok_ref01_Len mixed Try.func23 rfl (by kernel_rfl) (by kernel_rfl) rfl ?_
  intro x om hw _
  have hx := wf_w hw
  simp only [go_sem, Try.f23, Nat.reduceEqDiff, Nat.reduceBEq, Int.reduceToNat, Nat.reducePow, Nat.reduceMod, Nat.reduceAdd, Nat.reduceSub, Nat.reduceMul, Nat.reduceDiv, Nat.reduceLeDiff, Int.reduceAdd, Int.reduceSub, Int.reduceMul, Int.reduceDiv, Int.reduceMod, Int.reduceLE, Int.reduceLT, Int.reduceNeg, Int.reduceEq, Int.cast_ofNat_Int, Int.natCast_zero, List.contains_cons, List.contains_nil, Bool.or_false, Bool.or_true, Bool.true_or, reduceCtorEq, or_false, or_true, false_or, true_or, and_false, false_and, ne_eq, List.take_zero, List.take_succ_cons, List.take_nil, List.drop_zero, List.drop_succ_cons, List.drop_nil, decide_true, decide_false, c_ref01_List]
  have hb : bl x ≤ 128 := bl_lt.2 hx
  refine ⟨by omega, Nat, fun k => ⟨[.u, .u, .z 0, .z (bl (x % 2 ^ k)), .sl (els V.z (bitsL 128 x)), .z k, .u, .u, .u, .u, .u, .u, .u, .u, .u, .u, .u, .u, .u, .u], [], om⟩, fun k => k ≤ 128, fun k => 128 - k, ⟨0, by omega, ?_⟩, ?_⟩
  · simp only [go_sem, Nat.reduceEqDiff, Nat.reduceBEq, Int.reduceToNat, Nat.reducePow, Nat.reduceMod, Nat.reduceAdd, Nat.reduceSub, Nat.reduceMul, Nat.reduceDiv, Nat.reduceLeDiff, Int.reduceAdd, Int.reduceSub, Int.reduceMul, Int.reduceDiv, Int.reduceMod, Int.reduceLE, Int.reduceLT, Int.reduceNeg, Int.reduceEq, Int.cast_ofNat_Int, Int.natCast_zero, List.contains_cons, List.contains_nil, Bool.or_false, Bool.or_true, Bool.true_or, reduceCtorEq, or_false, or_true, false_or, true_or, and_false, false_and, ne_eq, List.take_zero, List.take_succ_cons, List.take_nil, List.drop_zero, List.drop_succ_cons, List.drop_nil, decide_true, decide_false, c_ref01_List, Nat.pow_zero, Nat.mod_one, bl_zero]
  · intro k hk
    have st := bl_low x k
    have e0 : k < 128 → ((bitsL 128 x).getD k 0 = 1 ↔ x.testBit k = true) := fun h => by rw [bits_getD _ _ _ h, bitI_eq_one]
    simp only [go_sem, Nat.reduceEqDiff, Nat.reduceBEq, Int.reduceToNat, Nat.reducePow, Nat.reduceMod, Nat.reduceAdd, Nat.reduceSub, Nat.reduceMul, Nat.reduceDiv, Nat.reduceLeDiff, Int.reduceAdd, Int.reduceSub, Int.reduceMul, Int.reduceDiv, Int.reduceMod, Int.reduceLE, Int.reduceLT, Int.reduceNeg, Int.reduceEq, Int.cast_ofNat_Int, Int.natCast_zero, List.contains_cons, List.contains_nil, Bool.or_false, Bool.or_true, Bool.true_or, reduceCtorEq, or_false, or_true, false_or, true_or, and_false, false_and, ne_eq, List.take_zero, List.take_succ_cons, List.take_nil, List.drop_zero, List.drop_succ_cons, List.drop_nil, decide_true, decide_false, c_ref01_List]
    refine ⟨fun h => ⟨by omega, fun g => ⟨by omega, by omega, k + 1, by omega, ⟨?_, by omega⟩, by omega⟩, fun g => ⟨by omega, k + 1, by omega, ⟨?_, by omega⟩, by omega⟩⟩, fun h => ?_⟩
    · rw [st, if_pos ((e0 (by omega)).1 g)]; omega
    · rw [st, if_neg (fun e => g ((e0 (by omega)).2 e))]
    · rw [show k = 128 by omega, Nat.mod_eq_of_lt (by omega)]

noncomputable def c_ref04_Pow : Cn := fn3 tQ tW tQ (fun a _ p => p ≠ 0 ∧ bl a ≤ 1000000 ∧ bl p ≤ 400000) fun a n p => vB (pwr a p n)
noncomputable def cx_ref04_Pow : Cx := { T := T, cs := [(23, c_ref01_Len), (24, c_ref03_Mod), (25, c_ref02_Mul), (46, c_ref01_List)], sch := [], ob := [], qs := [23, 24, 25, 46] }
@[go_sem] theorem cx_ref04_Pow_md : cx_ref04_Pow.md = 0 := rfl
@[go_sem] theorem cx_ref04_Pow_T : cx_ref04_Pow.T = T := rfl
@[go_sem] theorem cx_ref04_Pow_cs : cx_ref04_Pow.cs = [(23, c_ref01_Len), (24, c_ref03_Mod), (25, c_ref02_Mul), (46, c_ref01_List)] := rfl
@[go_sem] theorem cx_ref04_Pow_ob (d : Nat) : (cx_ref04_Pow.ob).contains d = false := rfl
theorem cok_ref04_Pow : COk Try.prog (cx_ref04_Pow) := cok_of rfl (.cons ok_ref01_Len (.cons ok_ref03_Mod (.cons ok_ref02_Mul (.cons ok_ref01_List (.nil))))) (.cons (fun _ => fn1_quiet) (.cons (fun _ => fn2_quiet) (.cons (fun _ => fn2_quiet) (.cons (fun _ => fn1_quiet) (.nil))))) (.nil)
theorem ok_ref04_Pow : Ok Try.prog 21 c_ref04_Pow := by
  refine ok_fn3 cok_ref04_Pow mixed Try.func21 rfl (by kernel_rfl) (by kernel_rfl) rfl ?_
  intro a n p om hw ⟨hp, ha, hb⟩
  have hn := wf_w hw.2
  simp only [go_sem, Try.f21, Nat.reduceEqDiff, Nat.reduceBEq, Int.reduceToNat, Nat.reducePow, Nat.reduceMod, Nat.reduceAdd, Nat.reduceSub, Nat.reduceMul, Nat.reduceDiv, Nat.reduceLeDiff, Int.reduceAdd, Int.reduceSub, Int.reduceMul, Int.reduceDiv, Int.reduceMod, Int.reduceLE, Int.reduceLT, Int.reduceNeg, Int.reduceEq, Int.cast_ofNat_Int, Int.natCast_zero, List.contains_cons, List.contains_nil, Bool.or_false, Bool.or_true, Bool.true_or, reduceCtorEq, or_false, or_true, false_or, true_or, and_false, false_and, ne_eq, List.take_zero, List.take_succ_cons, List.take_nil, List.drop_zero, List.drop_succ_cons, List.drop_nil, decide_true, decide_false, c_ref01_Len, c_ref03_Mod, c_ref02_Mul, c_ref01_List, pb_lit1, pb_zero, hp]
  have hbn : bl n ≤ 128 := bl_lt.2 hn
  have q1 := rm_lt 1 hp
  have q2 := rm_lt a hp
  have hb1 : bl 1 = 1 := rfl
  refine ⟨by omega, by omega, fun _ => ⟨by omega, fun _ => ⟨by omega, ?_⟩⟩⟩
  refine ⟨Nat, fun k => ⟨[.sl (els V.z (pb a)), .u, .sl (els V.z (pb p)), .u, .ref 4 1 2 0 0, .u, .nils, vB (pwr a p (n % 2 ^ k)), vB (pwr a p (2 ^ k)), .sl (els V.z (bitsL 128 n)), .z k, .u, .u, .u, .u, .u, .u, .u, .u, .u, .u, .u, .u, .u, .u, .u, .u, .u, .u, .u, .u, .u, .u, .u, .u, .u, .u, .u, .u, .u, .u], [(4, ⟨2, true, [.agg [.n .u64 (n / 18446744073709551616), .n .u64 (n % 18446744073709551616)]], false⟩)], om⟩, fun k => k ≤ bl n, fun k => bl n - k, ⟨0, by omega, ?_⟩, ?_⟩
  · simp only [go_sem, Nat.reduceEqDiff, Nat.reduceBEq, Int.reduceToNat, Nat.reducePow, Nat.reduceMod, Nat.reduceAdd, Nat.reduceSub, Nat.reduceMul, Nat.reduceDiv, Nat.reduceLeDiff, Int.reduceAdd, Int.reduceSub, Int.reduceMul, Int.reduceDiv, Int.reduceMod, Int.reduceLE, Int.reduceLT, Int.reduceNeg, Int.reduceEq, Int.cast_ofNat_Int, Int.natCast_zero, List.contains_cons, List.contains_nil, Bool.or_false, Bool.or_true, Bool.true_or, reduceCtorEq, or_false, or_true, false_or, true_or, and_false, false_and, ne_eq, List.take_zero, List.take_succ_cons, List.take_nil, List.drop_zero, List.drop_succ_cons, List.drop_nil, decide_true, decide_false, c_ref01_Len, c_ref03_Mod, c_ref02_Mul, c_ref01_List, Nat.pow_zero, Nat.mod_one, pwr_one a hp, pwr]
  · intro k hk
    have p1 := pwr_lt a hp (n % 2 ^ k)
    have p2 := pwr_lt a hp (2 ^ k)
    have b1 := bl_cm_le (pwr a p (n % 2 ^ k)) (pwr a p (2 ^ k))
    have b2 := bl_cm_le (pwr a p (2 ^ k)) (pwr a p (2 ^ k))
    have e0 : k < 128 → ((bitsL 128 n).getD k 0 = 1 ↔ n.testBit k = true) := fun h => by rw [bits_getD _ _ _ h, bitI_eq_one]
    have h2 : n.testBit k = decide (n / 2 ^ k % 2 = 1) := Nat.testBit_eq_decide_div_mod_eq
    have e : n % 2 ^ (k + 1) = n % 2 ^ k + 2 ^ k * (n / 2 ^ k % 2) := by rw [Nat.pow_succ, Nat.mod_mul]
    have s1 : rm (cm (pwr a p (2 ^ k)) (pwr a p (2 ^ k))) p = pwr a p (2 ^ (k + 1)) := by
      rw [← pwr_add a hp, Nat.pow_succ]; congr 1; omega
    have s2 : n.testBit k = true → rm (cm (pwr a p (n % 2 ^ k)) (pwr a p (2 ^ k))) p = pwr a p (n % 2 ^ (k + 1)) := fun h => by
      rw [h2, decide_eq_true_eq] at h
      rw [e, h, Nat.mul_one, pwr_add a hp]
    have s3 : ¬ n.testBit k = true → pwr a p (n % 2 ^ k) = pwr a p (n % 2 ^ (k + 1)) := fun h => by
      rw [h2, decide_eq_true_eq] at h
      rw [e, show n / 2 ^ k % 2 = 0 by omega, Nat.mul_zero, Nat.add_zero]
    have p3 := rm_lt (cm (pwr a p (n % 2 ^ k)) (pwr a p (2 ^ k))) hp
    have p4 := rm_lt (cm (pwr a p (2 ^ k)) (pwr a p (2 ^ k))) hp
    simp only [go_sem, Nat.reduceEqDiff, Nat.reduceBEq, Int.reduceToNat, Nat.reducePow, Nat.reduceMod, Nat.reduceAdd, Nat.reduceSub, Nat.reduceMul, Nat.reduceDiv, Nat.reduceLeDiff, Int.reduceAdd, Int.reduceSub, Int.reduceMul, Int.reduceDiv, Int.reduceMod, Int.reduceLE, Int.reduceLT, Int.reduceNeg, Int.reduceEq, Int.cast_ofNat_Int, Int.natCast_zero, List.contains_cons, List.contains_nil, Bool.or_false, Bool.or_true, Bool.true_or, reduceCtorEq, or_false, or_true, false_or, true_or, and_false, false_and, ne_eq, List.take_zero, List.take_succ_cons, List.take_nil, List.drop_zero, List.drop_succ_cons, List.drop_nil, decide_true, decide_false, c_ref01_Len, c_ref03_Mod, c_ref02_Mul, c_ref01_List, hp]
    refine ⟨by omega, fun _ => ⟨fun h => ⟨by omega, fun g => ⟨by omega, fun _ => ⟨by omega, fun _ => ⟨by omega, fun _ => ⟨by omega, fun _ => ⟨by omega, k + 1, by omega, ⟨s2 ((e0 (by omega)).1 g), s1, by omega⟩, by omega⟩⟩⟩⟩⟩, fun g => ⟨by omega, fun _ => ⟨by omega, fun _ => ⟨by omega, k + 1, by omega, ⟨s3 (fun e => g ((e0 (by omega)).2 e)), s1, by omega⟩, by omega⟩⟩⟩⟩, fun h => ?_⟩⟩
    rw [show k = bl n by omega, Nat.mod_eq_of_lt (lt_bl n)]

noncomputable def c_ref04_Plain : Cn := fn3 tQ tZ tQ (fun a _ p => p ≠ 0 ∧ bl a ≤ 400000 ∧ bl p ≤ 400000) fun a n p => vB (pwr a p n.toNat)
noncomputable def cx_ref04_Plain : Cx := { T := T, cs := [(24, c_ref03_Mod), (25, c_ref02_Mul)], sch := [], ob := [], qs := [24, 25] }
@[go_sem] theorem cx_ref04_Plain_md : cx_ref04_Plain.md = 0 := rfl
@[go_sem] theorem cx_ref04_Plain_T : cx_ref04_Plain.T = T := rfl
@[go_sem] theorem cx_ref04_Plain_cs : cx_ref04_Plain.cs = [(24, c_ref03_Mod), (25, c_ref02_Mul)] := rfl
@[go_sem] theorem cx_ref04_Plain_ob (d : Nat) : (cx_ref04_Plain.ob).contains d = false := rfl
theorem cok_ref04_Plain : COk Try.prog (cx_ref04_Plain) := cok_of rfl (.cons ok_ref03_Mod (.cons ok_ref02_Mul (.nil))) (.cons (fun _ => fn2_quiet) (.cons (fun _ => fn2_quiet) (.nil))) (.nil)
theorem ok_ref04_Plain : Ok Try.prog 28 c_ref04_Plain := by
  refine ok_fn3 cok_ref04_Plain mixed Try.func28 rfl (by kernel_rfl) (by kernel_rfl) rfl ?_
  intro a n p om hw ⟨hp, ha, hb⟩
  have hn : i64ok n := hw.2.1
  unfold i64ok at hn
  simp only [go_sem, Try.f28, Nat.reduceEqDiff, Nat.reduceBEq, Int.reduceToNat, Nat.reducePow, Nat.reduceMod, Nat.reduceAdd, Nat.reduceSub, Nat.reduceMul, Nat.reduceDiv, Nat.reduceLeDiff, Int.reduceAdd, Int.reduceSub, Int.reduceMul, Int.reduceDiv, Int.reduceMod, Int.reduceLE, Int.reduceLT, Int.reduceNeg, Int.reduceEq, Int.cast_ofNat_Int, Int.natCast_zero, List.contains_cons, List.contains_nil, Bool.or_false, Bool.or_true, Bool.true_or, reduceCtorEq, or_false, or_true, false_or, true_or, and_false, false_and, ne_eq, List.take_zero, List.take_succ_cons, List.take_nil, List.drop_zero, List.drop_succ_cons, List.drop_nil, decide_true, decide_false, c_ref03_Mod, c_ref02_Mul, pb_lit1, pb_zero, hp]
  have q1 := rm_lt 1 hp
  have hb1 : bl 1 = 1 := rfl
  refine ⟨by omega, by omega, fun _ => ?_⟩
  refine ⟨Nat, fun k => ⟨[.sl (els V.z (pb a)), .z n, .sl (els V.z (pb p)), .u, .u, .u, .nils, vB (pwr a p k), .z k, .u, .u, .u, .u, .u, .u, .u, .u, .u, .u, .u, .u, .u, .u], [], om⟩, fun k => k ≤ n.toNat, fun k => n.toNat - k, ⟨0, by omega, ?_⟩, ?_⟩
  · simp only [go_sem, Nat.reduceEqDiff, Nat.reduceBEq, Int.reduceToNat, Nat.reducePow, Nat.reduceMod, Nat.reduceAdd, Nat.reduceSub, Nat.reduceMul, Nat.reduceDiv, Nat.reduceLeDiff, Int.reduceAdd, Int.reduceSub, Int.reduceMul, Int.reduceDiv, Int.reduceMod, Int.reduceLE, Int.reduceLT, Int.reduceNeg, Int.reduceEq, Int.cast_ofNat_Int, Int.natCast_zero, List.contains_cons, List.contains_nil, Bool.or_false, Bool.or_true, Bool.true_or, reduceCtorEq, or_false, or_true, false_or, true_or, and_false, false_and, ne_eq, List.take_zero, List.take_succ_cons, List.take_nil, List.drop_zero, List.drop_succ_cons, List.drop_nil, decide_true, decide_false, c_ref03_Mod, c_ref02_Mul, pwr]
  · intro k hk
    have p1 := pwr_lt a hp k
    have b1 := bl_cm_le (pwr a p k) a
    have p3 := rm_lt (cm (pwr a p k) a) hp
    simp only [go_sem, Nat.reduceEqDiff, Nat.reduceBEq, Int.reduceToNat, Nat.reducePow, Nat.reduceMod, Nat.reduceAdd, Nat.reduceSub, Nat.reduceMul, Nat.reduceDiv, Nat.reduceLeDiff, Int.reduceAdd, Int.reduceSub, Int.reduceMul, Int.reduceDiv, Int.reduceMod, Int.reduceLE, Int.reduceLT, Int.reduceNeg, Int.reduceEq, Int.cast_ofNat_Int, Int.natCast_zero, List.contains_cons, List.contains_nil, Bool.or_false, Bool.or_true, Bool.true_or, reduceCtorEq, or_false, or_true, false_or, true_or, and_false, false_and, ne_eq, List.take_zero, List.take_succ_cons, List.take_nil, List.drop_zero, List.drop_succ_cons, List.drop_nil, decide_true, decide_false, c_ref03_Mod, c_ref02_Mul, hp]
    refine ⟨fun h => ⟨by omega, fun _ => ⟨by omega, fun _ => ⟨by omega, k + 1, by omega, ⟨rfl, by omega⟩, by omega⟩⟩⟩, fun h => by rw [show k = n.toNat by omega]⟩

/-- By trying. -/
def tryD (p i : Nat) : Bool := !(decide (2 * (bl (i + 2) - 1) ≤ bl p - 1) && decide (rm p (i + 2) = 0))
def triF (p k : Nat) : Bool := (List.range k).all (tryD p)
def tri (p : Nat) : Bool := decide (2 ≤ bl p) && triF p 510
theorem triF_succ (p k : Nat) : triF p (k + 1) = (triF p k && tryD p k) := by
  unfold triF; rw [List.range_succ, List.all_append]; simp
theorem triF_of {p k m : Nat} (h : triF p k = false) (hk : k ≤ m) : triF p m = false := by
  obtain ⟨d, rfl⟩ := Nat.exists_eq_add_of_le hk
  induction d with
  | zero => exact h
  | succ d ih => rw [← Nat.add_assoc, triF_succ, ih (by omega)]; rfl
noncomputable def c_ref04_Irreducible : Cn := fn1 tQ (fun p => bl p ≤ 1000000) fun p => .b (tri p)
noncomputable def cx_ref04_Irreducible : Cx := { T := T, cs := [(24, c_ref03_Mod), (56, c_ref01_Bits), (57, c_ref02_Trim)], sch := [], ob := [], qs := [24, 56, 57] }
@[go_sem] theorem cx_ref04_Irreducible_md : cx_ref04_Irreducible.md = 0 := rfl
@[go_sem] theorem cx_ref04_Irreducible_T : cx_ref04_Irreducible.T = T := rfl
@[go_sem] theorem cx_ref04_Irreducible_cs : cx_ref04_Irreducible.cs = [(24, c_ref03_Mod), (56, c_ref01_Bits), (57, c_ref02_Trim)] := rfl
@[go_sem] theorem cx_ref04_Irreducible_ob (d : Nat) : (cx_ref04_Irreducible.ob).contains d = false := rfl
theorem cok_ref04_Irreducible : COk Try.prog (cx_ref04_Irreducible) := cok_of rfl (.cons ok_ref03_Mod (.cons ok_ref01_Bits (.cons ok_ref02_Trim (.nil)))) (.cons (fun _ => fn2_quiet) (.cons (fun _ => fn1_quiet) (.cons (fun _ => fn1_quiet) (.nil)))) (.nil)
theorem ok_ref04_Irreducible : Ok Try.prog 31 c_ref04_Irreducible := by
  refine ok_fn1 cok_ref04_Irreducible mixed Try.func31 rfl (by kernel_rfl) (by kernel_rfl) rfl ?_
  intro p om hw hb
  simp only [go_sem, Try.f31, Nat.reduceEqDiff, Nat.reduceBEq, Int.reduceToNat, Nat.reducePow, Nat.reduceMod, Nat.reduceAdd, Nat.reduceSub, Nat.reduceMul, Nat.reduceDiv, Nat.reduceLeDiff, Int.reduceAdd, Int.reduceSub, Int.reduceMul, Int.reduceDiv, Int.reduceMod, Int.reduceLE, Int.reduceLT, Int.reduceNeg, Int.reduceEq, Int.cast_ofNat_Int, Int.natCast_zero, List.contains_cons, List.contains_nil, Bool.or_false, Bool.or_true, Bool.true_or, reduceCtorEq, or_false, or_true, false_or, true_or, and_false, false_and, ne_eq, List.take_zero, List.take_succ_cons, List.take_nil, List.drop_zero, List.drop_succ_cons, List.drop_nil, decide_true, decide_false, c_ref03_Mod, c_ref01_Bits, c_ref02_Trim]
  refine ⟨fun h => by unfold tri; rw [decide_eq_false (by omega)]; rfl, fun h => ?_⟩
  refine ⟨Nat, fun k => ⟨[.sl (els V.z (pb p)), .u, .b false, .n .u64 (k + 2), .u, .u, .u, .u, .u, .u, .u, .u, .u, .u, .u, .u, .u, .u, .u, .u, .u, .u, .u, .u, .u, .u, .u, .u, .u, .u], [], om⟩, fun k => k ≤ 510 ∧ triF p k = true, fun k => 510 - k, ⟨0, ⟨by omega, rfl⟩, ?_⟩, ?_⟩
  · simp only [go_sem, Nat.reduceEqDiff, Nat.reduceBEq, Int.reduceToNat, Nat.reducePow, Nat.reduceMod, Nat.reduceAdd, Nat.reduceSub, Nat.reduceMul, Nat.reduceDiv, Nat.reduceLeDiff, Int.reduceAdd, Int.reduceSub, Int.reduceMul, Int.reduceDiv, Int.reduceMod, Int.reduceLE, Int.reduceLT, Int.reduceNeg, Int.reduceEq, Int.cast_ofNat_Int, Int.natCast_zero, List.contains_cons, List.contains_nil, Bool.or_false, Bool.or_true, Bool.true_or, reduceCtorEq, or_false, or_true, false_or, true_or, and_false, false_and, ne_eq, List.take_zero, List.take_succ_cons, List.take_nil, List.drop_zero, List.drop_succ_cons, List.drop_nil, decide_true, decide_false, c_ref03_Mod, c_ref01_Bits, c_ref02_Trim]
  · rintro k ⟨hk, ht⟩
    have e : k + 2 < 18446744073709551616 := by omega
    have e1 : (k + 2) % 18446744073709551616 = k + 2 := Nat.mod_eq_of_lt e
    have e2 := triF_succ p k
    have b1 : bl (k + 2) ≤ 64 := bl_lt.2 (by omega)
    have b0 := bl_pos (x := k + 2)
    have b2 := bl_pos (x := rm p (k + 2))
    have b3 := bl_rm_le p (b := k + 2) (by omega)
    simp only [go_sem, Nat.reduceEqDiff, Nat.reduceBEq, Int.reduceToNat, Nat.reducePow, Nat.reduceMod, Nat.reduceAdd, Nat.reduceSub, Nat.reduceMul, Nat.reduceDiv, Nat.reduceLeDiff, Int.reduceAdd, Int.reduceSub, Int.reduceMul, Int.reduceDiv, Int.reduceMod, Int.reduceLE, Int.reduceLT, Int.reduceNeg, Int.reduceEq, Int.cast_ofNat_Int, Int.natCast_zero, List.contains_cons, List.contains_nil, Bool.or_false, Bool.or_true, Bool.true_or, reduceCtorEq, or_false, or_true, false_or, true_or, and_false, false_and, ne_eq, List.take_zero, List.take_succ_cons, List.take_nil, List.drop_zero, List.drop_succ_cons, List.drop_nil, decide_true, decide_false, c_ref03_Mod, c_ref01_Bits, c_ref02_Trim, e1]
    rw [ht] at e2
    have no : ¬ (2 * ((bl (k + 2) : Int) - 1) ≤ (bl p : Int) - 1) ∨ ¬ rm p (k + 2) = 0 → triF p (k + 1) = true := fun h => by
      rw [e2]; unfold tryD
      rcases h with h | h
      · rw [decide_eq_false (p := 2 * (bl (k + 2) - 1) ≤ bl p - 1) (by omega)]; rfl
      · rw [decide_eq_false h, Bool.and_false]; rfl
    refine ⟨fun g1 => fun _ => ⟨by omega, by omega, by omega, fun g2 => ⟨by omega, fun _ => ⟨fun g3 => ?_, fun g3 => ⟨k + 1, ⟨by omega, no (.inr (by omega))⟩, by omega, by omega⟩⟩⟩, fun g2 => ⟨k + 1, ⟨by omega, no (.inl g2)⟩, by omega, by omega⟩⟩, fun g1 => ?_⟩
    · unfold tri
      rw [triF_of (k := k + 1) ?_ (by omega), Bool.and_false]
      rw [e2]; unfold tryD
      rw [decide_eq_true (p := 2 * (bl (k + 2) - 1) ≤ bl p - 1) (by omega), decide_eq_true (p := rm p (k + 2) = 0) (by omega)]; rfl
    · unfold tri
      rw [decide_eq_true (by omega), show 510 = k by omega, ht]; rfl
end Go.Proofs.Ytaojebdjkpdcdaa.I
