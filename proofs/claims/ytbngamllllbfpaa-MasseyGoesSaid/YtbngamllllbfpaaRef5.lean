/- The references of layer 5: Rule, Length, Least, Goes, Same. -/
import Derived.Test.YtbngamllllbfpaaRef3
import Derived.Test.YtbngamllllbfpaaMassey2
namespace Go.Proofs.Ytbngamllllbfpaa.I
open Go
set_option maxRecDepth 10000
set_option linter.unusedSimpArgs false
set_option linter.unusedVariables false

/-- How many of them are so? -/
def cn (n : Nat) (f : Nat → Bool) : Nat := match n with
  | 0 => 0
  | n + 1 => cn n f + (if f n = true then 1 else 0)
theorem cn_le (n : Nat) (f : Nat → Bool) : cn n f ≤ n := by
  induction n with
  | zero => exact Nat.le_refl _
  | succ n ih => simp only [cn]; split <;> omega
theorem cn_px (n : Nat) (f : Nat → Bool) : cn n f % 2 = 1 ↔ px n f = true := by
  induction n with
  | zero => simp [cn, px]
  | succ n ih =>
    simp only [cn, px]
    cases hf : f n
    · simp [ih]
    · simp only [if_true, Bool.xor_true, Bool.not_eq_true']
      rw [← Bool.not_eq_true, ← ih]; omega

theorem pb_getD (n k : Nat) : (pb n).getD k 0 = bitI n k := by rw [getD_bv (good_pb n), bv_pb]

noncomputable def c_ref05_Rule : Cn := fn2 tQ tBs (fun p l => bl p ≤ 1000000 ∧ l.length ≤ 1099511627776) fun p l => .b (decide (Ru l p))
noncomputable def cx_ref05_Rule : Cx := { T := T, cs := [], sch := [], ob := [], qs := [] }
@[go_sem] theorem cx_ref05_Rule_md : cx_ref05_Rule.md = 0 := rfl
@[go_sem] theorem cx_ref05_Rule_T : cx_ref05_Rule.T = T := rfl
@[go_sem] theorem cx_ref05_Rule_cs : cx_ref05_Rule.cs = [] := rfl
@[go_sem] theorem cx_ref05_Rule_ob (d : Nat) : (cx_ref05_Rule.ob).contains d = false := rfl
theorem cok_ref05_Rule : COk Try.prog (cx_ref05_Rule) := cok_of rfl (.nil) (.nil) (.nil)
theorem ok_ref05_Rule : Ok Try.prog 48 c_ref05_Rule := by
  refine ok_fn2 cok_ref05_Rule mixed Try.func48 rfl (by kernel_rfl) (by kernel_rfl) rfl ?_
  intro p l om hw ⟨hp, hl⟩
  have h0 := bl_eq_zero (x := p)
  simp only [go_sem, Try.f48, Nat.reduceEqDiff, Nat.reduceBEq, Int.reduceToNat, Nat.reducePow, Nat.reduceMod, Nat.reduceAdd, Nat.reduceSub, Nat.reduceMul, Nat.reduceDiv, Nat.reduceLeDiff, Int.reduceAdd, Int.reduceSub, Int.reduceMul, Int.reduceDiv, Int.reduceMod, Int.reduceLE, Int.reduceLT, Int.reduceNeg, Int.reduceEq, Int.cast_ofNat_Int, Int.natCast_zero, List.contains_cons, List.contains_nil, Bool.or_false, Bool.or_true, Bool.true_or, reduceCtorEq, or_false, or_true, false_or, true_or, and_false, false_and, ne_eq, List.take_zero, List.take_succ_cons, List.take_nil, List.drop_zero, List.drop_succ_cons, List.drop_nil, decide_true, decide_false]
  refine ⟨fun h => ?_, fun h => ?_⟩
  · rw [eq_comm, decide_eq_false_iff_not]; exact fun g => g.1 (by omega)
  refine ⟨Nat, fun i => ⟨[.sl (els V.z (pb p)), .sl (els V.b l), .u, .u, .b false, .z i, .u, .u, .u, .u, .u, .u, .u, .u, .u, .u, .u, .u, .u, .u, .u, .u, .u, .u, .u, .u, .u, .u, .u, .u, .u, .u, .u, .u, .u, .u, .u, .u, .u, .u, .u, .u, .u, .u, .u], [], om⟩, fun i => i ≤ l.length - (bl p - 1) ∧ ∀ j, j < i → od p l j (bl p - 1) = false, fun i => l.length - (bl p - 1) - i, ⟨0, ⟨Nat.zero_le _, by omega⟩, ?_⟩, ?_⟩
  · simp only [go_sem, Nat.reduceEqDiff, Nat.reduceBEq, Int.reduceToNat, Nat.reducePow, Nat.reduceMod, Nat.reduceAdd, Nat.reduceSub, Nat.reduceMul, Nat.reduceDiv, Nat.reduceLeDiff, Int.reduceAdd, Int.reduceSub, Int.reduceMul, Int.reduceDiv, Int.reduceMod, Int.reduceLE, Int.reduceLT, Int.reduceNeg, Int.reduceEq, Int.cast_ofNat_Int, Int.natCast_zero, List.contains_cons, List.contains_nil, Bool.or_false, Bool.or_true, Bool.true_or, reduceCtorEq, or_false, or_true, false_or, true_or, and_false, false_and, ne_eq, List.take_zero, List.take_succ_cons, List.take_nil, List.drop_zero, List.drop_succ_cons, List.drop_nil, decide_true, decide_false]
  · rintro i ⟨hi, hz⟩
    simp only [go_sem, Nat.reduceEqDiff, Nat.reduceBEq, Int.reduceToNat, Nat.reducePow, Nat.reduceMod, Nat.reduceAdd, Nat.reduceSub, Nat.reduceMul, Nat.reduceDiv, Nat.reduceLeDiff, Int.reduceAdd, Int.reduceSub, Int.reduceMul, Int.reduceDiv, Int.reduceMod, Int.reduceLE, Int.reduceLT, Int.reduceNeg, Int.reduceEq, Int.cast_ofNat_Int, Int.natCast_zero, List.contains_cons, List.contains_nil, Bool.or_false, Bool.or_true, Bool.true_or, reduceCtorEq, or_false, or_true, false_or, true_or, and_false, false_and, ne_eq, List.take_zero, List.take_succ_cons, List.take_nil, List.drop_zero, List.drop_succ_cons, List.drop_nil, decide_true, decide_false]
    refine ⟨by omega, by omega, fun hlt => ?_, fun hge => ?_⟩
    · have hf : ∀ k, (fun k => p.testBit k && l.getD (i + k) false) k = (p.testBit k && l.getD (i + k) false) := fun _ => rfl
      have eod : od p l i (bl p - 1) = px (bl p) fun k => p.testBit k && l.getD (i + k) false := by
        unfold od; rw [show bl p - 1 + 1 = bl p by omega]
      refine ⟨Nat, fun k => ⟨[.sl (els V.z (pb p)), .sl (els V.b l), .u, .u, .b false, .z i, .z (cn k fun k => p.testBit k && l.getD (i + k) false), .z k, .u, .u, .u, .u, .u, .u, .u, .u, .u, .u, .u, .u, .u, .u, .u, .u, .u, .u, .u, .u, .u, .u, .u, .u, .u, .u, .u, .u, .u, .u, .u, .u, .u, .u, .u, .u, .u], [], om⟩, fun k => k ≤ bl p, fun k => bl p - k, ⟨0, Nat.zero_le _, ?_⟩, ?_⟩
      · simp only [go_sem, Nat.reduceEqDiff, Nat.reduceBEq, Int.reduceToNat, Nat.reducePow, Nat.reduceMod, Nat.reduceAdd, Nat.reduceSub, Nat.reduceMul, Nat.reduceDiv, Nat.reduceLeDiff, Int.reduceAdd, Int.reduceSub, Int.reduceMul, Int.reduceDiv, Int.reduceMod, Int.reduceLE, Int.reduceLT, Int.reduceNeg, Int.reduceEq, Int.cast_ofNat_Int, Int.natCast_zero, List.contains_cons, List.contains_nil, Bool.or_false, Bool.or_true, Bool.true_or, reduceCtorEq, or_false, or_true, false_or, true_or, and_false, false_and, ne_eq, List.take_zero, List.take_succ_cons, List.take_nil, List.drop_zero, List.drop_succ_cons, List.drop_nil, decide_true, decide_false, cn]
      · intro k hk
        have c1 := cn_le k fun k => p.testBit k && l.getD (i + k) false
        have c2 : cn (k + 1) (fun k => p.testBit k && l.getD (i + k) false) = cn k (fun k => p.testBit k && l.getD (i + k) false) + (if (p.testBit k && l.getD (i + k) false) = true then 1 else 0) := rfl
        have c3 := cn_px (bl p) fun k => p.testBit k && l.getD (i + k) false
        have eb : (pb p).getD k 0 = 1 ↔ p.testBit k = true := by rw [pb_getD]; exact bitI_eq_one
        have e1 : ((i : Int) + k).toNat = i + k := by omega
        have fin : ¬ (k : Int) < bl p → k = bl p := fun h => by omega
        cases hll : l.getD (i + k) false
        all_goals
          simp only [go_sem, Nat.reduceEqDiff, Nat.reduceBEq, Int.reduceToNat, Nat.reducePow, Nat.reduceMod, Nat.reduceAdd, Nat.reduceSub, Nat.reduceMul, Nat.reduceDiv, Nat.reduceLeDiff, Int.reduceAdd, Int.reduceSub, Int.reduceMul, Int.reduceDiv, Int.reduceMod, Int.reduceLE, Int.reduceLT, Int.reduceNeg, Int.reduceEq, Int.cast_ofNat_Int, Int.natCast_zero, List.contains_cons, List.contains_nil, Bool.or_false, Bool.or_true, Bool.true_or, reduceCtorEq, or_false, or_true, false_or, true_or, and_false, false_and, ne_eq, List.take_zero, List.take_succ_cons, List.take_nil, List.drop_zero, List.drop_succ_cons, List.drop_nil, decide_true, decide_false, e1, hll]
          rw [hll] at c2
          refine ⟨fun g1 => ⟨by omega, fun g2 => ⟨by omega, by omega, ?_⟩, fun g2 => ⟨by omega, k + 1, by omega, ⟨?_, by omega⟩, by omega⟩⟩, fun g1 => ?_⟩
        · exact ⟨by omega, k + 1, by omega, ⟨by rw [c2]; simp, by omega⟩, by omega⟩
        · rw [c2]; simp
        · obtain rfl := fin g1
          refine ⟨by omega, fun g2 => ?_, fun g2 => ⟨by omega, i + 1, ⟨by omega, fun j hj => ?_⟩, by omega, by omega⟩⟩
          · rw [eq_comm, decide_eq_false_iff_not]
            intro hr
            have := hr.2 i (by omega)
            rw [eod, c3.1 (by omega)] at this; cases this
          · by_cases e : j = i
            · subst e
              rw [eod]
              cases e : px (bl p) fun k => p.testBit k && l.getD (j + k) false with
              | false => rfl
              | true => have := c3.2 e; omega
            · exact hz j (by omega)
        · exact ⟨by omega, by omega, k + 1, by omega, ⟨by rw [c2, eb.1 g2]; simp, by omega⟩, by omega⟩
        · have : p.testBit k = false := by
            cases e : p.testBit k with
            | false => rfl
            | true => exact absurd (eb.2 e) g2
          rw [c2, this]; simp
        · obtain rfl := fin g1
          refine ⟨by omega, fun g2 => ?_, fun g2 => ⟨by omega, i + 1, ⟨by omega, fun j hj => ?_⟩, by omega, by omega⟩⟩
          · rw [eq_comm, decide_eq_false_iff_not]
            intro hr
            have := hr.2 i (by omega)
            rw [eod, c3.1 (by omega)] at this; cases this
          · by_cases e : j = i
            · subst e
              rw [eod]
              cases e : px (bl p) fun k => p.testBit k && l.getD (j + k) false with
              | false => rfl
              | true => have := c3.2 e; omega
            · exact hz j (by omega)
    · rw [eq_comm, decide_eq_true_eq]
      exact ⟨by omega, fun j hj => hz j (by omega)⟩

theorem wd_lit (n : Nat) (h : 0 < n) (h2 : n < 18446744073709551616) : wd n = [n] := by
  rw [wd_pos (by omega), Nat.mod_eq_of_lt h2, Nat.div_eq_of_lt h2, wd_zero]
theorem bl_two_pow (n : Nat) : bl (2 ^ n) = n + 1 := bl_unique (Nat.le_refl _) (Nat.pow_lt_pow_right (by omega) (by omega))
theorem bl_between {v n : Nat} (h1 : 2 ^ n ≤ v) (h2 : v < 2 ^ (n + 1)) : bl v = n + 1 := bl_unique h1 h2

noncomputable def c_ref05_Length : Cn := fn1 tBs (fun l => l.length ≤ 60) fun l => .z (lc l)
noncomputable def cx_ref05_Length : Cx := { T := T, cs := [(48, c_ref05_Rule), (53, c_ref01_Bits), (54, c_ref02_Trim)], sch := [], ob := [], qs := [48, 53, 54] }
@[go_sem] theorem cx_ref05_Length_md : cx_ref05_Length.md = 0 := rfl
@[go_sem] theorem cx_ref05_Length_T : cx_ref05_Length.T = T := rfl
@[go_sem] theorem cx_ref05_Length_cs : cx_ref05_Length.cs = [(48, c_ref05_Rule), (53, c_ref01_Bits), (54, c_ref02_Trim)] := rfl
@[go_sem] theorem cx_ref05_Length_ob (d : Nat) : (cx_ref05_Length.ob).contains d = false := rfl
theorem cok_ref05_Length : COk Try.prog (cx_ref05_Length) := cok_of rfl (.cons ok_ref05_Rule (.cons ok_ref01_Bits (.cons ok_ref02_Trim (.nil)))) (.cons (fun _ => fn2_quiet) (.cons (fun _ => fn1_quiet) (.cons (fun _ => fn1_quiet) (.nil)))) (.nil)
theorem ok_ref05_Length : Ok Try.prog 49 c_ref05_Length := by
  refine ok_fn1 cok_ref05_Length mixed Try.func49 rfl (by kernel_rfl) (by kernel_rfl) rfl ?_
  intro l om hw hl
  have hlc := lc_le l
  simp only [go_sem, Try.f49, Nat.reduceEqDiff, Nat.reduceBEq, Int.reduceToNat, Nat.reducePow, Nat.reduceMod, Nat.reduceAdd, Nat.reduceSub, Nat.reduceMul, Nat.reduceDiv, Nat.reduceLeDiff, Int.reduceAdd, Int.reduceSub, Int.reduceMul, Int.reduceDiv, Int.reduceMod, Int.reduceLE, Int.reduceLT, Int.reduceNeg, Int.reduceEq, Int.cast_ofNat_Int, Int.natCast_zero, List.contains_cons, List.contains_nil, Bool.or_false, Bool.or_true, Bool.true_or, reduceCtorEq, or_false, or_true, false_or, true_or, and_false, false_and, ne_eq, List.take_zero, List.take_succ_cons, List.take_nil, List.drop_zero, List.drop_succ_cons, List.drop_nil, decide_true, decide_false, c_ref05_Rule, c_ref01_Bits, c_ref02_Trim]
  refine ⟨Nat, fun n => ⟨[.sl (els V.b l), .u, .z 0, .z n, .u, .u, .u, .u, .u, .u, .u, .u, .u, .u, .u, .u, .u, .u, .u, .u, .u, .u, .u, .u, .u], [], om⟩, fun n => n ≤ lc l, fun n => lc l - n, ⟨0, Nat.zero_le _, ?_⟩, ?_⟩
  · simp only [go_sem, Nat.reduceEqDiff, Nat.reduceBEq, Int.reduceToNat, Nat.reducePow, Nat.reduceMod, Nat.reduceAdd, Nat.reduceSub, Nat.reduceMul, Nat.reduceDiv, Nat.reduceLeDiff, Int.reduceAdd, Int.reduceSub, Int.reduceMul, Int.reduceDiv, Int.reduceMod, Int.reduceLE, Int.reduceLT, Int.reduceNeg, Int.reduceEq, Int.cast_ofNat_Int, Int.natCast_zero, List.contains_cons, List.contains_nil, Bool.or_false, Bool.or_true, Bool.true_or, reduceCtorEq, or_false, or_true, false_or, true_or, and_false, false_and, ne_eq, List.take_zero, List.take_succ_cons, List.take_nil, List.drop_zero, List.drop_succ_cons, List.drop_nil, decide_true, decide_false, c_ref05_Rule, c_ref01_Bits, c_ref02_Trim]
  · intro n hn
    have hp : 2 ^ n < 2 ^ 61 := Nat.pow_lt_pow_right (by omega) (by omega)
    have hp2 : 2 ^ (n + 1) = 2 * 2 ^ n := by rw [Nat.pow_succ]; omega
    have e1 : 1 <<< n % 18446744073709551616 = 2 ^ n := by rw [Nat.one_shiftLeft, Nat.mod_eq_of_lt (by omega)]
    have e2 : 2 <<< n % 18446744073709551616 = 2 ^ (n + 1) := by
      rw [show 2 <<< n = 2 ^ (n + 1) by rw [Nat.shiftLeft_eq]; omega, Nat.mod_eq_of_lt (by omega)]
    simp only [go_sem, Nat.reduceEqDiff, Nat.reduceBEq, Int.reduceToNat, Nat.reducePow, Nat.reduceMod, Nat.reduceAdd, Nat.reduceSub, Nat.reduceMul, Nat.reduceDiv, Nat.reduceLeDiff, Int.reduceAdd, Int.reduceSub, Int.reduceMul, Int.reduceDiv, Int.reduceMod, Int.reduceLE, Int.reduceLT, Int.reduceNeg, Int.reduceEq, Int.cast_ofNat_Int, Int.natCast_zero, List.contains_cons, List.contains_nil, Bool.or_false, Bool.or_true, Bool.true_or, reduceCtorEq, or_false, or_true, false_or, true_or, and_false, false_and, ne_eq, List.take_zero, List.take_succ_cons, List.take_nil, List.drop_zero, List.drop_succ_cons, List.drop_nil, decide_true, decide_false, c_ref05_Rule, c_ref01_Bits, c_ref02_Trim, e1]
    refine ⟨fun h1 => ⟨by omega, ?_⟩, fun h1 => by omega⟩
    refine ⟨Nat, fun v => ⟨[.sl (els V.b l), .u, .z 0, .z n, .n .u64 v, .u, .u, .u, .u, .u, .u, .u, .u, .u, .u, .u, .u, .u, .u, .u, .u, .u, .u, .u, .u], [], om⟩, fun v => 2 ^ n ≤ v ∧ v ≤ 2 ^ (n + 1) ∧ ∀ w, 2 ^ n ≤ w → w < v → ¬ Ru l w, fun v => 2 ^ (n + 1) - v, ⟨2 ^ n, ⟨Nat.le_refl _, by omega, by omega⟩, ?_⟩, ?_⟩
    · simp only [go_sem, Nat.reduceEqDiff, Nat.reduceBEq, Int.reduceToNat, Nat.reducePow, Nat.reduceMod, Nat.reduceAdd, Nat.reduceSub, Nat.reduceMul, Nat.reduceDiv, Nat.reduceLeDiff, Int.reduceAdd, Int.reduceSub, Int.reduceMul, Int.reduceDiv, Int.reduceMod, Int.reduceLE, Int.reduceLT, Int.reduceNeg, Int.reduceEq, Int.cast_ofNat_Int, Int.natCast_zero, List.contains_cons, List.contains_nil, Bool.or_false, Bool.or_true, Bool.true_or, reduceCtorEq, or_false, or_true, false_or, true_or, and_false, false_and, ne_eq, List.take_zero, List.take_succ_cons, List.take_nil, List.drop_zero, List.drop_succ_cons, List.drop_nil, decide_true, decide_false, c_ref05_Rule, c_ref01_Bits, c_ref02_Trim]
    · rintro v ⟨h2, h3, h4⟩
      have ev : v % 18446744073709551616 = v := Nat.mod_eq_of_lt (by omega)
      have ev1 : (v + 1) % 18446744073709551616 = v + 1 := Nat.mod_eq_of_lt (by omega)
      have hbl := bl_between h2 (n := n)
      have top : ¬ v < 2 ^ (n + 1) → n + 1 ≤ lc l := fun h => by
        rcases Nat.lt_or_ge n (lc l) with g | g
        · exact g
        · exfalso
          have e : n = lc l := by omega
          obtain ⟨g1, g2⟩ := lst_ru l
          have g3 := lt_bl (lst l)
          rw [g2, ← e] at g3
          exact h4 (lst l) (bl_ge.1 (by omega)) (by omega) g1
      cases hr : decide (Ru l v)
      all_goals simp only [go_sem, Nat.reduceEqDiff, Nat.reduceBEq, Int.reduceToNat, Nat.reducePow, Nat.reduceMod, Nat.reduceAdd, Nat.reduceSub, Nat.reduceMul, Nat.reduceDiv, Nat.reduceLeDiff, Int.reduceAdd, Int.reduceSub, Int.reduceMul, Int.reduceDiv, Int.reduceMod, Int.reduceLE, Int.reduceLT, Int.reduceNeg, Int.reduceEq, Int.cast_ofNat_Int, Int.natCast_zero, List.contains_cons, List.contains_nil, Bool.or_false, Bool.or_true, Bool.true_or, reduceCtorEq, or_false, or_true, false_or, true_or, and_false, false_and, ne_eq, List.take_zero, List.take_succ_cons, List.take_nil, List.drop_zero, List.drop_succ_cons, List.drop_nil, decide_true, decide_false, c_ref05_Rule, c_ref01_Bits, c_ref02_Trim, e2, ev, ev1, hr]
      · rw [decide_eq_false_iff_not] at hr
        refine ⟨by omega, fun h5 _ => ⟨by omega, v + 1, ⟨by omega, by omega, fun w w1 w2 => ?_⟩, rfl, by omega⟩, fun h5 => ⟨by omega, n + 1, top h5, by omega, by have := top h5; omega⟩⟩
        by_cases e : w = v
        · rw [e]; exact hr
        · exact h4 w w1 (by omega)
      · rw [decide_eq_true_eq] at hr
        refine ⟨by omega, fun h5 _ => ⟨by omega, ?_⟩, fun h5 => ⟨by omega, n + 1, top h5, by omega, by have := top h5; omega⟩⟩
        have := lc_least hr
        have := hbl h5
        omega

noncomputable def c_ref05_Least : Cn := fn1 tBs (fun l => l.length ≤ 60 ∧ 2 * lc l ≤ l.length) fun l => vB (lst l)
noncomputable def cx_ref05_Least : Cx := { T := T, cs := [(48, c_ref05_Rule), (49, c_ref05_Length), (53, c_ref01_Bits), (54, c_ref02_Trim)], sch := [], ob := [], qs := [48, 49, 53, 54] }
@[go_sem] theorem cx_ref05_Least_md : cx_ref05_Least.md = 0 := rfl
@[go_sem] theorem cx_ref05_Least_T : cx_ref05_Least.T = T := rfl
@[go_sem] theorem cx_ref05_Least_cs : cx_ref05_Least.cs = [(48, c_ref05_Rule), (49, c_ref05_Length), (53, c_ref01_Bits), (54, c_ref02_Trim)] := rfl
@[go_sem] theorem cx_ref05_Least_ob (d : Nat) : (cx_ref05_Least.ob).contains d = false := rfl
theorem cok_ref05_Least : COk Try.prog (cx_ref05_Least) := cok_of rfl (.cons ok_ref05_Rule (.cons ok_ref05_Length (.cons ok_ref01_Bits (.cons ok_ref02_Trim (.nil))))) (.cons (fun _ => fn2_quiet) (.cons (fun _ => fn1_quiet) (.cons (fun _ => fn1_quiet) (.cons (fun _ => fn1_quiet) (.nil))))) (.nil)
theorem ok_ref05_Least : Ok Try.prog 52 c_ref05_Least := by
  refine ok_fn1 cok_ref05_Least mixed Try.func52 rfl (by kernel_rfl) (by kernel_rfl) rfl ?_
  intro l om hw ⟨hl, hl2⟩
  have hlc := lc_le l
  obtain ⟨n, hn⟩ : ∃ n, lc l = n := ⟨_, rfl⟩
  have hp : 2 ^ n < 2 ^ 61 := Nat.pow_lt_pow_right (by omega) (by omega)
  have hp2 : 2 ^ (n + 1) = 2 * 2 ^ n := by rw [Nat.pow_succ]; omega
  have e1 : 1 <<< n % 18446744073709551616 = 2 ^ n := by rw [Nat.one_shiftLeft, Nat.mod_eq_of_lt (by omega)]
  have e2 : 2 <<< n % 18446744073709551616 = 2 ^ (n + 1) := by
    rw [show 2 <<< n = 2 ^ (n + 1) by rw [Nat.shiftLeft_eq]; omega, Nat.mod_eq_of_lt (by omega)]
  obtain ⟨g1, g2⟩ := lst_ru l
  have g3 := lt_bl (lst l)
  have g4 : 2 ^ n ≤ lst l := bl_ge.1 (by omega)
  rw [g2, hn] at g3
  simp only [go_sem, Try.f52, Nat.reduceEqDiff, Nat.reduceBEq, Int.reduceToNat, Nat.reducePow, Nat.reduceMod, Nat.reduceAdd, Nat.reduceSub, Nat.reduceMul, Nat.reduceDiv, Nat.reduceLeDiff, Int.reduceAdd, Int.reduceSub, Int.reduceMul, Int.reduceDiv, Int.reduceMod, Int.reduceLE, Int.reduceLT, Int.reduceNeg, Int.reduceEq, Int.cast_ofNat_Int, Int.natCast_zero, List.contains_cons, List.contains_nil, Bool.or_false, Bool.or_true, Bool.true_or, reduceCtorEq, or_false, or_true, false_or, true_or, and_false, false_and, ne_eq, List.take_zero, List.take_succ_cons, List.take_nil, List.drop_zero, List.drop_succ_cons, List.drop_nil, decide_true, decide_false, c_ref05_Rule, c_ref05_Length, c_ref01_Bits, c_ref02_Trim, hn, e1]
  refine ⟨hl, fun _ => ⟨by omega, ?_⟩⟩
  refine ⟨Nat, fun v => ⟨[.sl (els V.b l), .u, .nils, .z n, .n .u64 v, .u, .u, .u, .u, .u, .u, .u, .u, .u, .u, .u, .u, .u, .u, .u, .u, .u, .u], [], om⟩, fun v => 2 ^ n ≤ v ∧ v ≤ lst l, fun v => 2 ^ (n + 1) - v, ⟨2 ^ n, ⟨Nat.le_refl _, g4⟩, ?_⟩, ?_⟩
  · simp only [go_sem, Nat.reduceEqDiff, Nat.reduceBEq, Int.reduceToNat, Nat.reducePow, Nat.reduceMod, Nat.reduceAdd, Nat.reduceSub, Nat.reduceMul, Nat.reduceDiv, Nat.reduceLeDiff, Int.reduceAdd, Int.reduceSub, Int.reduceMul, Int.reduceDiv, Int.reduceMod, Int.reduceLE, Int.reduceLT, Int.reduceNeg, Int.reduceEq, Int.cast_ofNat_Int, Int.natCast_zero, List.contains_cons, List.contains_nil, Bool.or_false, Bool.or_true, Bool.true_or, reduceCtorEq, or_false, or_true, false_or, true_or, and_false, false_and, ne_eq, List.take_zero, List.take_succ_cons, List.take_nil, List.drop_zero, List.drop_succ_cons, List.drop_nil, decide_true, decide_false, c_ref05_Rule, c_ref05_Length, c_ref01_Bits, c_ref02_Trim]
  · rintro v ⟨h2, h3⟩
    have ev : v % 18446744073709551616 = v := Nat.mod_eq_of_lt (by omega)
    have ev1 : (v + 1) % 18446744073709551616 = v + 1 := Nat.mod_eq_of_lt (by omega)
    have hbl := bl_between h2 (n := n) (by omega)
    cases hr : decide (Ru l v)
    all_goals simp only [go_sem, Nat.reduceEqDiff, Nat.reduceBEq, Int.reduceToNat, Nat.reducePow, Nat.reduceMod, Nat.reduceAdd, Nat.reduceSub, Nat.reduceMul, Nat.reduceDiv, Nat.reduceLeDiff, Int.reduceAdd, Int.reduceSub, Int.reduceMul, Int.reduceDiv, Int.reduceMod, Int.reduceLE, Int.reduceLT, Int.reduceNeg, Int.reduceEq, Int.cast_ofNat_Int, Int.natCast_zero, List.contains_cons, List.contains_nil, Bool.or_false, Bool.or_true, Bool.true_or, reduceCtorEq, or_false, or_true, false_or, true_or, and_false, false_and, ne_eq, List.take_zero, List.take_succ_cons, List.take_nil, List.drop_zero, List.drop_succ_cons, List.drop_nil, decide_true, decide_false, c_ref05_Rule, c_ref05_Length, c_ref01_Bits, c_ref02_Trim, e2, ev, ev1, hr]
    · rw [decide_eq_false_iff_not] at hr
      have : v ≠ lst l := by rintro rfl; exact hr g1
      exact ⟨by omega, fun h5 _ => ⟨by omega, v + 1, ⟨by omega, by omega⟩, rfl, by omega⟩, fun h5 => by omega⟩
    · rw [decide_eq_true_eq] at hr
      refine ⟨by omega, fun h5 _ => ⟨by omega, fun _ => ?_⟩, fun h5 => by omega⟩
      exact lst_unique hr (by omega) hl2

def c_ref05_Same : Cn := fn2 tBs tBs (fun _ _ => True) fun xs ys => .b (decide (xs = ys))
noncomputable def cx_ref05_Same : Cx := { T := T, cs := [], sch := [(6, false, .take 0 (.take 1 (.take 2 (.take 3 (.take 4 (.take 5 (.take 6 (.take 7 (.take 8 (.done))))))))))], ob := [], qs := [] }
@[go_sem] theorem cx_ref05_Same_md : cx_ref05_Same.md = 0 := rfl
@[go_sem] theorem cx_ref05_Same_T : cx_ref05_Same.T = T := rfl
@[go_sem] theorem cx_ref05_Same_cs : cx_ref05_Same.cs = [] := rfl
@[go_sem] theorem cx_ref05_Same_sch : cx_ref05_Same.sch = [(6, false, .take 0 (.take 1 (.take 2 (.take 3 (.take 4 (.take 5 (.take 6 (.take 7 (.take 8 (.done))))))))))] := rfl
@[go_sem] theorem cx_ref05_Same_ob (d : Nat) : (cx_ref05_Same.ob).contains d = false := rfl
theorem cok_ref05_Same : COk Try.prog (cx_ref05_Same) := cok_of rfl (.nil) (.nil) (.nil)
theorem ok_ref05_Same : Ok Try.prog 45 c_ref05_Same := by
  refine ok_fn2 cok_ref05_Same mixed Try.func45 rfl (by kernel_rfl) (by kernel_rfl) rfl ?_
  intro xs ys om hw _
  have hxl := wf_bs ⟨hw.1, trivial⟩
  rw [longest_eq] at hxl
  simp only [go_sem, Try.f45, Nat.reduceEqDiff, Nat.reduceBEq, Int.reduceToNat, Nat.reducePow, Nat.reduceMod, Nat.reduceAdd, Nat.reduceSub, Nat.reduceMul, Nat.reduceDiv, Nat.reduceLeDiff, Int.reduceAdd, Int.reduceSub, Int.reduceMul, Int.reduceDiv, Int.reduceMod, Int.reduceLE, Int.reduceLT, Int.reduceNeg, Int.reduceEq, Int.cast_ofNat_Int, Int.natCast_zero, List.contains_cons, List.contains_nil, Bool.or_false, Bool.or_true, Bool.true_or, reduceCtorEq, or_false, or_true, false_or, true_or, and_false, false_and, ne_eq, List.take_zero, List.take_succ_cons, List.take_nil, List.drop_zero, List.drop_succ_cons, List.drop_nil, decide_true, decide_false]
  refine ⟨fun hl => ?_, fun hl => ?_⟩
  · refine ⟨Nat, fun k => ⟨[.sl (els V.b xs), .sl (els V.b ys), .u, .u, .b false, .z k, .u, .u, .u, .u, .u, .u, .u, .u, .u, .u, .u, .u, .u, .u, .u, .u, .u, .u, .u, .u], [], om⟩, fun k => k ≤ xs.length ∧ xs.take k = ys.take k, fun k => xs.length - k, ⟨0, ⟨by omega, rfl⟩, ?_⟩, ?_⟩
    · simp only [go_sem, Nat.reduceEqDiff, Nat.reduceBEq, Int.reduceToNat, Nat.reducePow, Nat.reduceMod, Nat.reduceAdd, Nat.reduceSub, Nat.reduceMul, Nat.reduceDiv, Nat.reduceLeDiff, Int.reduceAdd, Int.reduceSub, Int.reduceMul, Int.reduceDiv, Int.reduceMod, Int.reduceLE, Int.reduceLT, Int.reduceNeg, Int.reduceEq, Int.cast_ofNat_Int, Int.natCast_zero, List.contains_cons, List.contains_nil, Bool.or_false, Bool.or_true, Bool.true_or, reduceCtorEq, or_false, or_true, false_or, true_or, and_false, false_and, ne_eq, List.take_zero, List.take_succ_cons, List.take_nil, List.drop_zero, List.drop_succ_cons, List.drop_nil, decide_true, decide_false]
    · rintro k ⟨hk, ht⟩
      cases hx : (xs.getD k false != ys.getD k false)
      all_goals simp only [go_sem, Nat.reduceEqDiff, Nat.reduceBEq, Int.reduceToNat, Nat.reducePow, Nat.reduceMod, Nat.reduceAdd, Nat.reduceSub, Nat.reduceMul, Nat.reduceDiv, Nat.reduceLeDiff, Int.reduceAdd, Int.reduceSub, Int.reduceMul, Int.reduceDiv, Int.reduceMod, Int.reduceLE, Int.reduceLT, Int.reduceNeg, Int.reduceEq, Int.cast_ofNat_Int, Int.natCast_zero, List.contains_cons, List.contains_nil, Bool.or_false, Bool.or_true, Bool.true_or, reduceCtorEq, or_false, or_true, false_or, true_or, and_false, false_and, ne_eq, List.take_zero, List.take_succ_cons, List.take_nil, List.drop_zero, List.drop_succ_cons, List.drop_nil, decide_true, decide_false, hx]
      · refine ⟨fun h => ⟨by omega, by omega, by omega, k + 1, ⟨by omega, ?_⟩, by omega, by omega⟩, fun h => ?_⟩
        · rw [take_snoc_getD (by omega) false, take_snoc_getD (show k < ys.length by omega) false, ht, show xs.getD k false = ys.getD k false by simpa using hx]
        · rw [eq_comm, decide_eq_true_iff]
          rwa [List.take_of_length_le (by omega), List.take_of_length_le (by omega)] at ht
      · refine ⟨fun h => ⟨by omega, by omega, ?_⟩, fun h => ?_⟩
        · rw [eq_comm, decide_eq_false_iff_not]; rintro rfl; simp at hx
        · rw [eq_comm, decide_eq_true_iff]
          rwa [List.take_of_length_le (by omega), List.take_of_length_le (by omega)] at ht
  · rw [eq_comm, decide_eq_false_iff_not]; rintro rfl; exact hl rfl

noncomputable def c_ref05_Goes : Cn := fn3 tQ tBs tZ (fun p l m => 2 ≤ bl p ∧ bl p ≤ 1000000 ∧ bl p - 1 ≤ l.length ∧ l.length ≤ 1073741824 ∧ 0 ≤ m ∧ m ≤ 1073741824) fun p l m => .sl (els V.b (go p l m.toNat))
noncomputable def cx_ref05_Goes : Cx := { T := T, cs := [], sch := [], ob := [], qs := [] }
@[go_sem] theorem cx_ref05_Goes_md : cx_ref05_Goes.md = 0 := rfl
@[go_sem] theorem cx_ref05_Goes_T : cx_ref05_Goes.T = T := rfl
@[go_sem] theorem cx_ref05_Goes_cs : cx_ref05_Goes.cs = [] := rfl
@[go_sem] theorem cx_ref05_Goes_ob (d : Nat) : (cx_ref05_Goes.ob).contains d = false := rfl
theorem cok_ref05_Goes : COk Try.prog (cx_ref05_Goes) := cok_of rfl (.nil) (.nil) (.nil)
theorem ok_ref05_Goes : Ok Try.prog 46 c_ref05_Goes := by
  refine ok_fn3 cok_ref05_Goes mixed Try.func46 rfl (by kernel_rfl) (by kernel_rfl) rfl ?_
  intro p l m om hw ⟨hp, hp2, hl, hl2, hm, hm2⟩
  obtain ⟨m, rfl⟩ := Int.eq_ofNat_of_zero_le hm
  simp only [go_sem, Try.f46, Nat.reduceEqDiff, Nat.reduceBEq, Int.reduceToNat, Nat.reducePow, Nat.reduceMod, Nat.reduceAdd, Nat.reduceSub, Nat.reduceMul, Nat.reduceDiv, Nat.reduceLeDiff, Int.reduceAdd, Int.reduceSub, Int.reduceMul, Int.reduceDiv, Int.reduceMod, Int.reduceLE, Int.reduceLT, Int.reduceNeg, Int.reduceEq, Int.cast_ofNat_Int, Int.natCast_zero, List.contains_cons, List.contains_nil, Bool.or_false, Bool.or_true, Bool.true_or, reduceCtorEq, or_false, or_true, false_or, true_or, and_false, false_and, ne_eq, List.take_zero, List.take_succ_cons, List.take_nil, List.drop_zero, List.drop_succ_cons, List.drop_nil, decide_true, decide_false]
  refine ⟨by omega, ?_⟩
  refine ⟨Nat, fun i => ⟨[.sl (els V.z (pb p)), .sl (els V.b l), .z m, .u, .u, .u, .u, .row 13 (l.length + i) (l.length + i), .z i, .u, .u, .u, .u, .u, .u, .u, .u, .u, .u, .u, .u, .u, .u, .u, .u, .u, .u, .u, .u, .u, .u, .u, .u, .u, .u, .u, .u, .u, .u, .u, .u, .u, .u, .u, .u, .u, .u, .u, .u, .u, .u, .u, .u], [(13, ⟨1, false, els V.b (go p l i), false⟩)], om⟩, fun i => i ≤ m, fun i => m - i, ⟨0, Nat.zero_le _, ?_⟩, ?_⟩
  · simp only [go_sem, Nat.reduceEqDiff, Nat.reduceBEq, Int.reduceToNat, Nat.reducePow, Nat.reduceMod, Nat.reduceAdd, Nat.reduceSub, Nat.reduceMul, Nat.reduceDiv, Nat.reduceLeDiff, Int.reduceAdd, Int.reduceSub, Int.reduceMul, Int.reduceDiv, Int.reduceMod, Int.reduceLE, Int.reduceLT, Int.reduceNeg, Int.reduceEq, Int.cast_ofNat_Int, Int.natCast_zero, List.contains_cons, List.contains_nil, Bool.or_false, Bool.or_true, Bool.true_or, reduceCtorEq, or_false, or_true, false_or, true_or, and_false, false_and, ne_eq, List.take_zero, List.take_succ_cons, List.take_nil, List.drop_zero, List.drop_succ_cons, List.drop_nil, decide_true, decide_false, go]
    rfl
  · intro i hi
    have e0 := go_len p l i
    obtain ⟨L, hL⟩ : ∃ L, go p l i = L := ⟨_, rfl⟩
    obtain ⟨f, hf⟩ : ∃ f : Nat → Bool, (fun k => p.testBit k && L.getD (l.length + i - (bl p - 1) + k) false) = f := ⟨_, rfl⟩
    have hf' : ∀ k, f k = (p.testBit k && L.getD (l.length + i - (bl p - 1) + k) false) := fun k => by rw [← hf]
    have eo : od p L (l.length + i - (bl p - 1)) (bl p - 2) = px (bl p - 1) f := by
      unfold od; rw [show bl p - 2 + 1 = bl p - 1 by omega, hf]
    have es : go p l (i + 1) = L ++ [px (bl p - 1) f] := by
      rw [← eo]
      show go p l i ++ [od p (go p l i) ((go p l i).length - (bl p - 1)) (bl p - 2)] = _
      rw [e0, hL]
    rw [hL] at e0
    simp only [go_sem, Nat.reduceEqDiff, Nat.reduceBEq, Int.reduceToNat, Nat.reducePow, Nat.reduceMod, Nat.reduceAdd, Nat.reduceSub, Nat.reduceMul, Nat.reduceDiv, Nat.reduceLeDiff, Int.reduceAdd, Int.reduceSub, Int.reduceMul, Int.reduceDiv, Int.reduceMod, Int.reduceLE, Int.reduceLT, Int.reduceNeg, Int.reduceEq, Int.cast_ofNat_Int, Int.natCast_zero, List.contains_cons, List.contains_nil, Bool.or_false, Bool.or_true, Bool.true_or, reduceCtorEq, or_false, or_true, false_or, true_or, and_false, false_and, ne_eq, List.take_zero, List.take_succ_cons, List.take_nil, List.drop_zero, List.drop_succ_cons, List.drop_nil, decide_true, decide_false, e0, hL]
    refine ⟨fun h1 => ?_, fun h1 => ?_⟩
    · refine ⟨Nat, fun k => ⟨[.sl (els V.z (pb p)), .sl (els V.b l), .z m, .u, .u, .u, .u, .row 13 (l.length + i) (l.length + i), .z i, .z (cn k f), .z k, .u, .u, .u, .u, .u, .u, .u, .u, .u, .u, .u, .u, .u, .u, .u, .u, .u, .u, .u, .u, .u, .u, .u, .u, .u, .u, .u, .u, .u, .u, .u, .u, .u, .u, .u, .u, .u, .u, .u, .u, .u, .u], [(13, ⟨1, false, els V.b L, false⟩)], om⟩, fun k => k ≤ bl p - 1, fun k => bl p - 1 - k, ⟨0, Nat.zero_le _, ?_⟩, ?_⟩
      · simp only [go_sem, Nat.reduceEqDiff, Nat.reduceBEq, Int.reduceToNat, Nat.reducePow, Nat.reduceMod, Nat.reduceAdd, Nat.reduceSub, Nat.reduceMul, Nat.reduceDiv, Nat.reduceLeDiff, Int.reduceAdd, Int.reduceSub, Int.reduceMul, Int.reduceDiv, Int.reduceMod, Int.reduceLE, Int.reduceLT, Int.reduceNeg, Int.reduceEq, Int.cast_ofNat_Int, Int.natCast_zero, List.contains_cons, List.contains_nil, Bool.or_false, Bool.or_true, Bool.true_or, reduceCtorEq, or_false, or_true, false_or, true_or, and_false, false_and, ne_eq, List.take_zero, List.take_succ_cons, List.take_nil, List.drop_zero, List.drop_succ_cons, List.drop_nil, decide_true, decide_false, cn]
      · intro k hk
        have c1 := cn_le k f
        have c2 : cn (k + 1) f = cn k f + (if f k = true then 1 else 0) := rfl
        have c3 := cn_px (bl p - 1) f
        have eb : (pb p).getD k 0 = 1 ↔ p.testBit k = true := by rw [pb_getD]; exact bitI_eq_one
        have e1 : ((((l.length + i : Nat) : Int) - bl p) + 1 + k).toNat = l.length + i - (bl p - 1) + k := by omega
        have fin : ¬ (k : Int) + 1 < bl p → k = bl p - 1 := fun h => by omega
        have e2 : (L.take (l.length + i)).getD (l.length + i - (bl p - 1) + k) false = L.getD (l.length + i - (bl p - 1) + k) false := by
          rw [List.take_of_length_le (by omega)]
        have hfk := hf' k
        have tail : ¬ (k : Int) + 1 < bl p → 0 ≤ ((cn k f : Nat) : Int) ∧ 0 < 1 ∧ (l.length + i + 1) * 1 ≤ 140737488355328 ∧ (-9223372036854775808 ≤ (i : Int) + 1 ∧ (i : Int) + 1 ≤ 9223372036854775807) ∧
            ∃ y, y ≤ m ∧ ((l.length + i + 1 = l.length + y ∧ (i : Int) + 1 = (y : Nat)) ∧ L ++ [decide (((cn k f : Nat) : Int) % 2 = 1)] = go p l y) ∧ m - y < m - i := fun h => by
          obtain rfl := fin h
          refine ⟨by omega, by omega, by omega, by omega, i + 1, by omega, ⟨⟨by omega, by omega⟩, ?_⟩, by omega⟩
          rw [es]
          congr 2
          rw [Bool.eq_iff_iff, decide_eq_true_eq, ← c3]; omega
        cases hll : L.getD (l.length + i - (bl p - 1) + k) false
        all_goals
          simp only [go_sem, Nat.reduceEqDiff, Nat.reduceBEq, Int.reduceToNat, Nat.reducePow, Nat.reduceMod, Nat.reduceAdd, Nat.reduceSub, Nat.reduceMul, Nat.reduceDiv, Nat.reduceLeDiff, Int.reduceAdd, Int.reduceSub, Int.reduceMul, Int.reduceDiv, Int.reduceMod, Int.reduceLE, Int.reduceLT, Int.reduceNeg, Int.reduceEq, Int.cast_ofNat_Int, Int.natCast_zero, List.contains_cons, List.contains_nil, Bool.or_false, Bool.or_true, Bool.true_or, reduceCtorEq, or_false, or_true, false_or, true_or, and_false, false_and, ne_eq, List.take_zero, List.take_succ_cons, List.take_nil, List.drop_zero, List.drop_succ_cons, List.drop_nil, decide_true, decide_false, e0, e1, e2, hll]
          rw [hll] at hfk
          refine ⟨by omega, fun g1 => ?_, tail⟩
          clear tail
          refine ⟨by omega, fun g2 => ?_, fun g2 => ?_⟩
        · rw [eb] at g2
          exact ⟨by omega, by omega, by omega, by omega, by omega, by omega, k + 1, by omega, ⟨by rw [c2, hfk]; simp, by omega⟩, by omega⟩
        · exact ⟨by omega, k + 1, by omega, ⟨by rw [c2, hfk]; simp, by omega⟩, by omega⟩
        · rw [eb] at g2
          exact ⟨by omega, by omega, by omega, by omega, by omega, by omega, by omega, k + 1, by omega, ⟨by rw [c2, hfk, g2]; simp, by omega⟩, by omega⟩
        · have : p.testBit k = false := by
            cases e : p.testBit k with
            | false => rfl
            | true => exact absurd (eb.2 e) g2
          exact ⟨by omega, k + 1, by omega, ⟨by rw [c2, hfk, this]; simp, by omega⟩, by omega⟩
    · rw [List.take_of_length_le (by omega), ← hL, show i = m by omega]
end Go.Proofs.Ytbngamllllbfpaa.I
