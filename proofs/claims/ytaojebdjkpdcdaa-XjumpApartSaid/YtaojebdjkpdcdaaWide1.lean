/- wide: Len, Right, Bit. -/
import Derived.Test.YtaojebdjkpdcdaaGfp2
import Derived.Test.YtaojebdjkpdcdaaM3
namespace Go.Proofs.Ytaojebdjkpdcdaa.I
open Go
set_option maxRecDepth 10000
set_option linter.unusedSimpArgs false
set_option linter.unusedVariables false

/-- A number of 128 bits. -/
def vW (n : Nat) : V := .agg [.n .u64 (n / 18446744073709551616), .n .u64 (n % 18446744073709551616)]
@[go_sem] theorem vW_eq (n : Nat) : vW n = .agg [.n .u64 (n / 18446744073709551616), .n .u64 (n % 18446744073709551616)] := rfl
noncomputable def tW : Ty Nat := Ty.by vW fun a b h => by
  simp only [vW_eq, V.agg.injEq, List.cons.injEq, V.n.injEq, true_and, and_true] at h
  omega
@[go_sem] theorem tW_enc (n : Nat) : tW.enc n = .agg [.n .u64 (n / 18446744073709551616), .n .u64 (n % 18446744073709551616)] := rfl
@[go_sem] theorem tW_dec (n : Nat) : tW.dec (.agg [.n .u64 (n / 18446744073709551616), .n .u64 (n % 18446744073709551616)]) = some n := tW.h1 n
theorem tW_pair {h l : Nat} (hl : l < 18446744073709551616) : tW.dec (.agg [.n .u64 h, .n .u64 l]) = some (h * 18446744073709551616 + l) := by
  have := tW.h1 (h * 18446744073709551616 + l)
  rw [tW_enc, show (h * 18446744073709551616 + l) / 18446744073709551616 = h by omega, show (h * 18446744073709551616 + l) % 18446744073709551616 = l by omega] at this
  exact this
theorem wf_w {n : Nat} {vs : List V} (h : wfs (.agg [.n .u64 (n / 18446744073709551616), .n .u64 (n % 18446744073709551616)] :: vs)) : n < 340282366920938463463374607431768211456 := by
  have : n / 18446744073709551616 < 18446744073709551616 := h.1.1
  omega

theorem bl_split (n : Nat) : bl n = if n / 18446744073709551616 = 0 then bl (n % 18446744073709551616) else 64 + bl (n / 18446744073709551616) := by
  split
  · rename_i h; rw [Nat.mod_eq_of_lt (by omega)]
  · rename_i h
    have e : n / 18446744073709551616 = n >>> 64 := by rw [Nat.shiftRight_eq_div_pow]
    rw [e]
    exact bl_shr (by omega)

noncomputable def c_wide_Len : Cn := fn1 tW (fun _ => True) fun x => .z (bl x)
noncomputable def cx_wide_Len : Cx := { T := T, E := E, cs := [(62, c_math_bits_Len64)], sch := [], ob := [], qs := [62] }
@[go_sem] theorem cx_wide_Len_md : cx_wide_Len.md = 0 := rfl
@[go_sem] theorem cx_wide_Len_T : cx_wide_Len.T = T := rfl
@[go_sem] theorem cx_wide_Len_E : cx_wide_Len.E = E := rfl
@[go_sem] theorem cx_wide_Len_cs : cx_wide_Len.cs = [(62, c_math_bits_Len64)] := rfl
@[go_sem] theorem cx_wide_Len_ob (d : Nat) : (cx_wide_Len.ob).contains d = false := rfl
theorem cok_wide_Len : COk Try.prog (cx_wide_Len) := cok_of rfl (.cons ok_math_bits_Len64 (.nil)) (.cons (fun _ => fn1_quiet) (.nil)) (.nil)
theorem ok_wide_Len : Ok Try.prog 59 c_wide_Len := by
  refine ok_fn1 cok_wide_Len mixed Try.func59 rfl (by kernel_rfl) (by kernel_rfl) rfl ?_
  intro x om hw _
  have hx := wf_w hw
  have hb := bl_split x
  have h1 : bl (x / 18446744073709551616) ≤ 64 := bl_lt.2 (by omega)
  simp only [go_sem, Try.f59, Nat.reduceEqDiff, Nat.reduceBEq, Int.reduceToNat, Nat.reducePow, Nat.reduceMod, Nat.reduceAdd, Nat.reduceSub, Nat.reduceMul, Nat.reduceDiv, Nat.reduceLeDiff, Int.reduceAdd, Int.reduceSub, Int.reduceMul, Int.reduceDiv, Int.reduceMod, Int.reduceLE, Int.reduceLT, Int.reduceNeg, Int.reduceEq, Int.cast_ofNat_Int, Int.natCast_zero, List.contains_cons, List.contains_nil, Bool.or_false, Bool.or_true, Bool.true_or, reduceCtorEq, or_false, or_true, false_or, true_or, and_false, false_and, ne_eq, List.take_zero, List.take_succ_cons, List.take_nil, List.drop_zero, List.drop_succ_cons, List.drop_nil, decide_true, decide_false, c_math_bits_Len64]
  exact ⟨by omega, fun h => ⟨by omega, fun _ => ⟨by omega, by rw [hb, if_neg (by omega)]; omega⟩⟩, fun h => ⟨by omega, fun _ => by rw [hb, if_pos (by omega)]⟩⟩

theorem shr_div (x k : Nat) : x >>> k = x / 2 ^ k := Nat.shiftRight_eq_div_pow x k
theorem right_lo {x k : Nat} (h0 : 0 < k) (h : k < 64) : (x % 18446744073709551616) >>> k ||| ((x / 18446744073709551616) <<< (64 - k)) % 18446744073709551616 = (x >>> k) % 18446744073709551616 := by
  apply Nat.eq_of_testBit_eq
  intro i
  have e : (18446744073709551616 : Nat) = 2 ^ 64 := rfl
  rw [e, Nat.testBit_or, Nat.testBit_shiftRight, Nat.testBit_mod_two_pow, Nat.testBit_mod_two_pow, Nat.testBit_mod_two_pow, Nat.testBit_shiftLeft, Nat.testBit_shiftRight, Nat.testBit_div_two_pow]
  by_cases h1 : k + i < 64
  · have h2 : i < 64 := by omega
    have h3 : ¬ 64 - k ≤ i := by omega
    simp [h1, h2, h3]
  · by_cases h2 : i < 64
    · have h3 : 64 - k ≤ i := by omega
      have h4 : i - (64 - k) + 64 = k + i := by omega
      have h5 : 64 + (i - (64 - k)) = k + i := by omega
      simp [h1, h2, h3, h4, h5]
    · simp [h1, h2]
theorem right_hi (x k : Nat) : (x / 18446744073709551616) >>> k = (x >>> k) / 18446744073709551616 := by
  rw [shr_div, shr_div, Nat.div_div_eq_div_mul, Nat.div_div_eq_div_mul, Nat.mul_comm]

noncomputable def c_wide_Right : Cn := fn2 tW tZ (fun _ _ => True) fun x i => vW (x >>> i.toNat)
noncomputable def cx_wide_Right : Cx := { T := T, E := E, cs := [], sch := [(5, false, .take 0 (.take 1 (.take 2 (.take 3 (.take 4 (.take 5 (.take 6 (.take 7 (.take 8 (.take 9 (.take 10 (.take 11 (.take 12 (.take 13 (.take 14 (.alt 15 (.done) .no))))))))))))))))], ob := [], qs := [] }
@[go_sem] theorem cx_wide_Right_md : cx_wide_Right.md = 0 := rfl
@[go_sem] theorem cx_wide_Right_T : cx_wide_Right.T = T := rfl
@[go_sem] theorem cx_wide_Right_E : cx_wide_Right.E = E := rfl
@[go_sem] theorem cx_wide_Right_cs : cx_wide_Right.cs = [] := rfl
@[go_sem] theorem cx_wide_Right_sch : cx_wide_Right.sch = [(5, false, .take 0 (.take 1 (.take 2 (.take 3 (.take 4 (.take 5 (.take 6 (.take 7 (.take 8 (.take 9 (.take 10 (.take 11 (.take 12 (.take 13 (.take 14 (.alt 15 (.done) .no))))))))))))))))] := rfl
@[go_sem] theorem cx_wide_Right_ob (d : Nat) : (cx_wide_Right.ob).contains d = false := rfl
theorem cok_wide_Right : COk Try.prog (cx_wide_Right) := cok_of rfl (.nil) (.nil) (.nil)
theorem ok_wide_Right : Ok Try.prog 91 c_wide_Right := by
  refine ok_fn2 cok_wide_Right mixed Try.func91 rfl (by kernel_rfl) (by kernel_rfl) rfl ?_
  intro x i om hw _
  have hx := wf_w hw
  simp only [go_sem, Try.f91, Nat.reduceEqDiff, Nat.reduceBEq, Int.reduceToNat, Nat.reducePow, Nat.reduceMod, Nat.reduceAdd, Nat.reduceSub, Nat.reduceMul, Nat.reduceDiv, Nat.reduceLeDiff, Int.reduceAdd, Int.reduceSub, Int.reduceMul, Int.reduceDiv, Int.reduceMod, Int.reduceLE, Int.reduceLT, Int.reduceNeg, Int.reduceEq, Int.cast_ofNat_Int, Int.natCast_zero, List.contains_cons, List.contains_nil, Bool.or_false, Bool.or_true, Bool.true_or, reduceCtorEq, or_false, or_true, false_or, true_or, and_false, false_and, ne_eq, List.take_zero, List.take_succ_cons, List.take_nil, List.drop_zero, List.drop_succ_cons, List.drop_nil, decide_true, decide_false]
  have e : (18446744073709551616 : Nat) = 2 ^ 64 := rfl
  refine ⟨fun h => ?_, fun h => ⟨fun h1 => ?_, fun h1 => ?_⟩⟩
  · rw [show i.toNat = 0 by omega, Nat.shiftRight_zero]
    exact ⟨by omega, by omega, by omega, rfl, rfl⟩
  · have hs : x >>> i.toNat < 18446744073709551616 := by
      rw [shr_div]
      refine Nat.div_lt_of_lt_mul ?_
      have : 2 ^ 64 ≤ 2 ^ i.toNat := Nat.pow_le_pow_right (by omega) (by omega)
      calc x < 2 ^ 64 * 18446744073709551616 := by omega
        _ ≤ _ := Nat.mul_le_mul_right _ this
    refine ⟨by omega, by omega, by omega, by omega, by omega, ?_, ?_⟩
    · rw [Nat.div_eq_of_lt hs]
    · rw [Nat.mod_eq_of_lt hs]
      by_cases h2 : i ≤ 128
      · rw [e, ← Nat.shiftRight_eq_div_pow, ← Nat.shiftRight_add]
        congr 1; omega
      · rw [shr_div, shr_div, Nat.div_eq_of_lt, Nat.div_eq_of_lt]
        · have : 2 ^ 128 ≤ 2 ^ i.toNat := Nat.pow_le_pow_right (by omega) (by omega)
          omega
        · rw [show (min i 128 - 64).toNat = 64 by omega]; omega
  · have hi : (64 - i).toNat = 64 - i.toNat := by omega
    rw [hi]
    exact ⟨by omega, by omega, by omega, by omega, by omega, by omega, by omega, by omega, by omega, right_hi _ _, right_lo (by omega) (by omega)⟩

noncomputable def c_wide_Bit : Cn := fn2 tW tZ (fun _ _ => True) fun x i => .z (tb x i)
noncomputable def cx_wide_Bit : Cx := { T := T, E := E, cs := [(91, c_wide_Right)], sch := [], ob := [], qs := [91] }
@[go_sem] theorem cx_wide_Bit_md : cx_wide_Bit.md = 0 := rfl
@[go_sem] theorem cx_wide_Bit_T : cx_wide_Bit.T = T := rfl
@[go_sem] theorem cx_wide_Bit_E : cx_wide_Bit.E = E := rfl
@[go_sem] theorem cx_wide_Bit_cs : cx_wide_Bit.cs = [(91, c_wide_Right)] := rfl
@[go_sem] theorem cx_wide_Bit_ob (d : Nat) : (cx_wide_Bit.ob).contains d = false := rfl
theorem cok_wide_Bit : COk Try.prog (cx_wide_Bit) := cok_of rfl (.cons ok_wide_Right (.nil)) (.cons (fun _ => fn2_quiet) (.nil)) (.nil)
theorem ok_wide_Bit : Ok Try.prog 82 c_wide_Bit := by
  refine ok_fn2 cok_wide_Bit mixed Try.func82 rfl (by kernel_rfl) (by kernel_rfl) rfl ?_
  intro x i om hw _
  have hx := wf_w hw
  simp only [go_sem, Try.f82, Nat.reduceEqDiff, Nat.reduceBEq, Int.reduceToNat, Nat.reducePow, Nat.reduceMod, Nat.reduceAdd, Nat.reduceSub, Nat.reduceMul, Nat.reduceDiv, Nat.reduceLeDiff, Int.reduceAdd, Int.reduceSub, Int.reduceMul, Int.reduceDiv, Int.reduceMod, Int.reduceLE, Int.reduceLT, Int.reduceNeg, Int.reduceEq, Int.cast_ofNat_Int, Int.natCast_zero, List.contains_cons, List.contains_nil, Bool.or_false, Bool.or_true, Bool.true_or, reduceCtorEq, or_false, or_true, false_or, true_or, and_false, false_and, ne_eq, List.take_zero, List.take_succ_cons, List.take_nil, List.drop_zero, List.drop_succ_cons, List.drop_nil, decide_true, decide_false, c_wide_Right, tW_pair]
  refine ⟨fun h => ?_, fun h => ⟨by omega, fun _ => ⟨?_, ?_⟩⟩⟩
  · unfold tb; rw [if_neg (by omega)]
  · rw [Nat.and_one_is_mod]; omega
  · unfold tb
    have e : (18446744073709551616 : Nat) = 2 ^ 64 := rfl
    have h2 : x.testBit i.toNat = decide (x >>> i.toNat % 2 = 1) := by rw [Nat.testBit_eq_decide_div_mod_eq, Nat.shiftRight_eq_div_pow]
    rw [Nat.and_one_is_mod, h2]
    by_cases h3 : x >>> i.toNat % 2 = 1
    · rw [if_pos ⟨by omega, decide_eq_true h3⟩]; omega
    · rw [if_neg (fun h => h3 (of_decide_eq_true h.2))]; omega
end Go.Proofs.Ytaojebdjkpdcdaa.I
