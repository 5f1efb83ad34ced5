/- gfp: Deg, Bit, Add, Same. -/
import Derived.Test.YtaojebdjkpdcdaaGfp1
namespace Go.Proofs.Ytaojebdjkpdcdaa.I
open Go
set_option maxRecDepth 10000
set_option linter.unusedSimpArgs false
set_option linter.unusedVariables false

def c_gfp_Deg : Cn := fn1 tU (fun xs => xs.length ≤ 17592186044416) fun xs => .z ((bl (pv xs) : Int) - 1)
noncomputable def cx_gfp_Deg : Cx := { T := T, E := E, cs := [(61, c_gfp_Own), (62, c_math_bits_Len64)], sch := [], ob := [], qs := [61, 62] }
@[go_sem] theorem cx_gfp_Deg_md : cx_gfp_Deg.md = 0 := rfl
@[go_sem] theorem cx_gfp_Deg_T : cx_gfp_Deg.T = T := rfl
@[go_sem] theorem cx_gfp_Deg_E : cx_gfp_Deg.E = E := rfl
@[go_sem] theorem cx_gfp_Deg_cs : cx_gfp_Deg.cs = [(61, c_gfp_Own), (62, c_math_bits_Len64)] := rfl
@[go_sem] theorem cx_gfp_Deg_ob (d : Nat) : (cx_gfp_Deg.ob).contains d = false := rfl
theorem cok_gfp_Deg : COk Try.prog (cx_gfp_Deg) := cok_of rfl (.cons ok_gfp_Own (.cons ok_math_bits_Len64 (.nil))) (.cons (fun _ => fn1_quiet) (.cons (fun _ => fn1_quiet) (.nil))) (.nil)
theorem ok_gfp_Deg : Ok Try.prog 26 c_gfp_Deg := by
  refine ok_fn1 cok_gfp_Deg mixed Try.func26 rfl (by kernel_rfl) (by kernel_rfl) rfl ?_
  intro ys om hw hl
  have hx := (wf_u hw).2
  have hb := bl_pv hx
  simp only [go_sem, Try.f26, Nat.reduceEqDiff, Nat.reduceBEq, Int.reduceToNat, Nat.reducePow, Nat.reduceMod, Nat.reduceAdd, Nat.reduceSub, Nat.reduceMul, Nat.reduceDiv, Nat.reduceLeDiff, Int.reduceAdd, Int.reduceSub, Int.reduceMul, Int.reduceDiv, Int.reduceMod, Int.reduceLE, Int.reduceLT, Int.reduceNeg, Int.reduceEq, Int.cast_ofNat_Int, Int.natCast_zero, List.contains_cons, List.contains_nil, Bool.or_false, Bool.or_true, Bool.true_or, reduceCtorEq, or_false, or_true, false_or, true_or, and_false, false_and, ne_eq, List.take_zero, List.take_succ_cons, List.take_nil, List.drop_zero, List.drop_succ_cons, List.drop_nil, decide_true, decide_false, c_gfp_Own, c_math_bits_Len64]
  refine ⟨hl, fun _ => ⟨fun h0 => by omega, fun h0 => ?_⟩⟩
  have hn : pv ys ≠ 0 := by rintro e; rw [e] at h0; exact h0 rfl
  obtain ⟨h1, h2⟩ := bl_last hn
  rw [wd_len] at h1 h2
  rw [show (((bl (pv ys) + 63) / 64 : Nat) - 1 : Int).toNat = (bl (pv ys) + 63) / 64 - 1 by omega]
  have := (bl_lt (k := 64)).2 (wdAt_lt (pv ys) ((bl (pv ys) + 63) / 64 - 1))
  exact ⟨by omega, by omega, by omega, by omega, fun _ => ⟨by omega, by omega, by omega⟩⟩

/-- A part of a polynomial. -/
def tb (n : Nat) (i : Int) : Int := if 0 ≤ i ∧ n.testBit i.toNat = true then 1 else 0
def c_gfp_Bit : Cn := fn2 tU tZ (fun _ _ => True) fun xs i => .z (tb (pv xs) i)
noncomputable def cx_gfp_Bit : Cx := { T := T, E := E, cs := [(79, c_gfp_Poly_at)], sch := [], ob := [], qs := [79] }
@[go_sem] theorem cx_gfp_Bit_md : cx_gfp_Bit.md = 0 := rfl
@[go_sem] theorem cx_gfp_Bit_T : cx_gfp_Bit.T = T := rfl
@[go_sem] theorem cx_gfp_Bit_E : cx_gfp_Bit.E = E := rfl
@[go_sem] theorem cx_gfp_Bit_cs : cx_gfp_Bit.cs = [(79, c_gfp_Poly_at)] := rfl
@[go_sem] theorem cx_gfp_Bit_ob (d : Nat) : (cx_gfp_Bit.ob).contains d = false := rfl
theorem cok_gfp_Bit : COk Try.prog (cx_gfp_Bit) := cok_of rfl (.cons ok_gfp_Poly_at (.nil)) (.cons (fun _ => fn2_quiet) (.nil)) (.nil)
theorem ok_gfp_Bit : Ok Try.prog 70 c_gfp_Bit := by
  refine ok_fn2 cok_gfp_Bit mixed Try.func70 rfl (by kernel_rfl) (by kernel_rfl) rfl ?_
  intro ys i om hw _
  have hx := (wf_u ⟨hw.1, trivial⟩).2
  simp only [go_sem, Try.f70, Nat.reduceEqDiff, Nat.reduceBEq, Int.reduceToNat, Nat.reducePow, Nat.reduceMod, Nat.reduceAdd, Nat.reduceSub, Nat.reduceMul, Nat.reduceDiv, Nat.reduceLeDiff, Int.reduceAdd, Int.reduceSub, Int.reduceMul, Int.reduceDiv, Int.reduceMod, Int.reduceLE, Int.reduceLT, Int.reduceNeg, Int.reduceEq, Int.cast_ofNat_Int, Int.natCast_zero, List.contains_cons, List.contains_nil, Bool.or_false, Bool.or_true, Bool.true_or, reduceCtorEq, or_false, or_true, false_or, true_or, and_false, false_and, ne_eq, List.take_zero, List.take_succ_cons, List.take_nil, List.drop_zero, List.drop_succ_cons, List.drop_nil, decide_true, decide_false, c_gfp_Poly_at]
  refine ⟨fun h => ?_, fun h => ⟨by omega, fun _ => ?_⟩⟩
  · unfold tb; rw [if_neg (by omega)]
  · obtain ⟨k, rfl⟩ := Int.eq_ofNat_of_zero_le (show 0 ≤ i by omega)
    have e : atU (pv ys) ((k : Int) / 64) >>> ((k : Int) % 64).toNat &&& 1 = if (pv ys).testBit k then 1 else 0 := by
      rw [atU_pos (by omega), show ((k : Int) / 64).toNat = k / 64 by omega, show ((k : Int) % 64).toNat = k % 64 by omega]
      have h1 : (wdAt (pv ys) (k / 64)).testBit (k % 64) = (pv ys).testBit k := by
        rw [testBit_wdAt, show 64 * (k / 64) + k % 64 = k by omega]
        have : k % 64 < 64 := by omega
        simp [this]
      rw [← h1, Nat.and_one_is_mod, Nat.shiftRight_eq_div_pow, Nat.testBit_eq_decide_div_mod_eq]
      simp only [decide_eq_true_eq]
      split <;> omega
    have hk : tb (pv ys) k = if (pv ys).testBit k then 1 else 0 := by unfold tb; simp
    rw [e, hk]
    refine ⟨by omega, by omega, by split <;> omega, by split <;> rfl⟩

def c_gfp_Add : Cn := fn2 tU tU (fun xs ys => xs.length ≤ 4294967296 ∧ ys.length ≤ 4294967296) fun xs ys => vP (pv xs ^^^ pv ys)
noncomputable def cx_gfp_Add : Cx := { T := T, E := E, cs := [(61, c_gfp_Own), (79, c_gfp_Poly_at)], sch := [], ob := [], qs := [61, 79] }
@[go_sem] theorem cx_gfp_Add_md : cx_gfp_Add.md = 0 := rfl
@[go_sem] theorem cx_gfp_Add_T : cx_gfp_Add.T = T := rfl
@[go_sem] theorem cx_gfp_Add_E : cx_gfp_Add.E = E := rfl
@[go_sem] theorem cx_gfp_Add_cs : cx_gfp_Add.cs = [(61, c_gfp_Own), (79, c_gfp_Poly_at)] := rfl
@[go_sem] theorem cx_gfp_Add_ob (d : Nat) : (cx_gfp_Add.ob).contains d = false := rfl
theorem cok_gfp_Add : COk Try.prog (cx_gfp_Add) := cok_of rfl (.cons ok_gfp_Own (.cons ok_gfp_Poly_at (.nil))) (.cons (fun _ => fn1_quiet) (.cons (fun _ => fn2_quiet) (.nil))) (.nil)
theorem ok_gfp_Add : Ok Try.prog 51 c_gfp_Add := by
  refine ok_fn2 cok_gfp_Add mixed Try.func51 rfl (by kernel_rfl) (by kernel_rfl) rfl ?_
  intro xs ys om hw ⟨hl1, hl2⟩
  have hx := (wf_u ⟨hw.1, trivial⟩).2
  have hy := (wf_u ⟨hw.2.1, trivial⟩).2
  simp only [go_sem, Try.f51]
  have hm : (max (xs.length : Int) ys.length).toNat = max xs.length ys.length := by omega
  generalize hn : max xs.length ys.length = n at *
  rw [hm]
  refine ⟨⟨by omega, by omega, by omega, by omega⟩, ?_⟩
  have hb : bl (pv xs ^^^ pv ys) ≤ 64 * n := by have := bl_xor_le (pv xs) (pv ys); have := bl_pv hx; have := bl_pv hy; omega
  refine ⟨Nat, fun k => ⟨[.sl (els (V.n .u64) xs), .sl (els (V.n .u64) ys), .u, .u, .u, .row 12 n n, .u, .u, .u, .u, .u, .u, .u, .u, .z n, .z k, .u, .u, .u, .u, .u, .u, .u, .u, .u, .u, .u, .u, .u, .u, .u], [(12, ⟨1, false, els (V.n .u64) (filled n k (wdAt (pv xs ^^^ pv ys)) 0), false⟩)], om⟩, fun k => k ≤ n, fun k => n - k, ⟨0, by omega, ?_⟩, ?_⟩
  · simp only [go_sem, filled_zero, Nat.reduceEqDiff, Nat.reduceBEq, Int.reduceToNat, Nat.reducePow, Nat.reduceMod, Nat.reduceAdd, Nat.reduceSub, Nat.reduceMul, Nat.reduceDiv, Nat.reduceLeDiff, Int.reduceAdd, Int.reduceSub, Int.reduceMul, Int.reduceDiv, Int.reduceMod, Int.reduceLE, Int.reduceLT, Int.reduceNeg, Int.reduceEq, Int.cast_ofNat_Int, Int.natCast_zero, List.contains_cons, List.contains_nil, Bool.or_false, Bool.or_true, Bool.true_or, reduceCtorEq, or_false, or_true, false_or, true_or, and_false, false_and, ne_eq, List.take_zero, List.take_succ_cons, List.take_nil, List.drop_zero, List.drop_succ_cons, List.drop_nil, decide_true, decide_false]
  · intro k hk
    simp only [go_sem, Nat.reduceEqDiff, Nat.reduceBEq, Int.reduceToNat, Nat.reducePow, Nat.reduceMod, Nat.reduceAdd, Nat.reduceSub, Nat.reduceMul, Nat.reduceDiv, Nat.reduceLeDiff, Int.reduceAdd, Int.reduceSub, Int.reduceMul, Int.reduceDiv, Int.reduceMod, Int.reduceLE, Int.reduceLT, Int.reduceNeg, Int.reduceEq, Int.cast_ofNat_Int, Int.natCast_zero, List.contains_cons, List.contains_nil, Bool.or_false, Bool.or_true, Bool.true_or, reduceCtorEq, or_false, or_true, false_or, true_or, and_false, false_and, ne_eq, List.take_zero, List.take_succ_cons, List.take_nil, List.drop_zero, List.drop_succ_cons, List.drop_nil, decide_true, decide_false, c_gfp_Own, c_gfp_Poly_at]
    refine ⟨fun h _ _ => ⟨by omega, by omega, by omega, k + 1, by omega, ⟨by omega, ?_⟩, by omega⟩, fun h => ⟨by omega, fun _ => pv_filled (by omega) hb⟩⟩
    rw [atU_pos (by omega), atU_pos (by omega), Int.toNat_natCast, ← wdAt_xor, filled_set]

def c_gfp_Same : Cn := fn2 tU tU (fun xs ys => xs.length ≤ 4294967296 ∧ ys.length ≤ 4294967296) fun xs ys => .b (decide (pv xs = pv ys))
noncomputable def cx_gfp_Same : Cx := { T := T, E := E, cs := [(51, c_gfp_Add)], sch := [], ob := [], qs := [51] }
@[go_sem] theorem cx_gfp_Same_md : cx_gfp_Same.md = 0 := rfl
@[go_sem] theorem cx_gfp_Same_T : cx_gfp_Same.T = T := rfl
@[go_sem] theorem cx_gfp_Same_E : cx_gfp_Same.E = E := rfl
@[go_sem] theorem cx_gfp_Same_cs : cx_gfp_Same.cs = [(51, c_gfp_Add)] := rfl
@[go_sem] theorem cx_gfp_Same_ob (d : Nat) : (cx_gfp_Same.ob).contains d = false := rfl
theorem cok_gfp_Same : COk Try.prog (cx_gfp_Same) := cok_of rfl (.cons ok_gfp_Add (.nil)) (.cons (fun _ => fn2_quiet) (.nil)) (.nil)
theorem ok_gfp_Same : Ok Try.prog 34 c_gfp_Same := by
  refine ok_fn2 cok_gfp_Same mixed Try.func34 rfl (by kernel_rfl) (by kernel_rfl) rfl ?_
  intro xs ys om hw ⟨hl1, hl2⟩
  simp only [go_sem, Try.f34, Nat.reduceEqDiff, Nat.reduceBEq, Int.reduceToNat, Nat.reducePow, Nat.reduceMod, Nat.reduceAdd, Nat.reduceSub, Nat.reduceMul, Nat.reduceDiv, Nat.reduceLeDiff, Int.reduceAdd, Int.reduceSub, Int.reduceMul, Int.reduceDiv, Int.reduceMod, Int.reduceLE, Int.reduceLT, Int.reduceNeg, Int.reduceEq, Int.cast_ofNat_Int, Int.natCast_zero, List.contains_cons, List.contains_nil, Bool.or_false, Bool.or_true, Bool.true_or, reduceCtorEq, or_false, or_true, false_or, true_or, and_false, false_and, ne_eq, List.take_zero, List.take_succ_cons, List.take_nil, List.drop_zero, List.drop_succ_cons, List.drop_nil, decide_true, decide_false, c_gfp_Add]
  refine ⟨⟨hl1, hl2⟩, fun _ => ?_⟩
  rw [decide_eq_decide]
  have := bl_eq_zero (x := pv xs ^^^ pv ys)
  rw [xor_eq_zero] at this
  omega
end Go.Proofs.Ytaojebdjkpdcdaa.I
