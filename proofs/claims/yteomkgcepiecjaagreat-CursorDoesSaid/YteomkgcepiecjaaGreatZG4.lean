/- Texts of the ideal machine, or of plain numbers, one behind the other: Wide1, Wide2, Wide3, Aff, Mix, Xosh1. -/
import Derived.Test.YteomkgcepiecjaaGreatZG3
import Derived.Test.YteomkgcepiecjaaGreatZM3
import Derived.Shelf.Spec.BitsCarry
/- wide: Len, Right, Bit. -/
namespace Go.Proofs.YteomkgcepiecjaaGreat.I
open Go
open Nat renaming reduceEqDiff → kn1, reduceBEq → kn2, reducePow → kn3, reduceMod → kn4, reduceAdd → kn5, reduceSub → kn6, reduceMul → kn7, reduceDiv → kn8, reduceLeDiff → kn9, reduceLT → kn0, zero_lt_one → kq1, zero_add → kq2, zero_le → kq3, le_refl → kq4
open Int renaming reduceToNat → kz1, reduceAdd → kz2, reduceSub → kz3, reduceMul → kz4, reduceDiv → kz5, reduceMod → kz6, reduceLE → kz7, reduceLT → kz8, reduceNeg → kz9, reduceEq → kz0
set_option maxRecDepth 10000
set_option linter.unusedSimpArgs false
set_option linter.unusedVariables false
def vW (n : Nat) : V := .agg [.n .u64 (n / 18446744073709551616), .n .u64 (n % 18446744073709551616)]
@[go_sem] theorem vW_eq (n : Nat) : vW n = .agg [.n .u64 (n / 18446744073709551616), .n .u64 (n % 18446744073709551616)] := rfl
noncomputable def tW : Ty Nat := Ty.by vW fun a b h => by
  simp only [vW_eq, V.agg.injEq, List.cons.injEq, V.n.injEq, true_and, and_true] at h
  omega
@[go_sem] theorem tW_enc (n : Nat) : tW.enc n = .agg [.n .u64 (n / 18446744073709551616), .n .u64 (n % 18446744073709551616)] := rfl
@[go_sem] theorem tW_dec (n : Nat) : tW.dec (.agg [.n .u64 (n / 18446744073709551616), .n .u64 (n % 18446744073709551616)]) = some n := tW.h1 n
theorem tW_pair {h l : Nat} (hl : l < 18446744073709551616) : tW.dec (.agg [.n .u64 h, .n .u64 l]) = some (h * 18446744073709551616 + l) := by
  have := tW.h1 (h * 18446744073709551616 + l)
  rw [tW_enc, show (h * 18446744073709551616 + l) / 18446744073709551616 = h by omega, show (h * 18446744073709551616 + l) % 18446744073709551616 = l by omega] at this
  exact this
theorem wf_w {n : Nat} {vs : List V} (h : wfs (.agg [.n .u64 (n / 18446744073709551616), .n .u64 (n % 18446744073709551616)] :: vs)) : n < 340282366920938463463374607431768211456 := by
  have : n / 18446744073709551616 < 18446744073709551616 := h.1.1
  omega
theorem bl_split (n : Nat) : bl n = if n / 18446744073709551616 = 0 then bl (n % 18446744073709551616) else 64 + bl (n / 18446744073709551616) := by
  split
  · rename_i h; rw [Nat.mod_eq_of_lt (by omega)]
  · rename_i h
    have e : n / 18446744073709551616 = n >>> 64 := by rw [Nat.shiftRight_eq_div_pow]
    rw [e]
    exact bl_shr (by omega)
@[go_sem] noncomputable def c_wide_Len : Cn := fn1 tW (fun _ => True) fun x => .z (bl x)
noncomputable def cx_wide_Len : Cx := { T := T, E := E, cs := [(140, c_math_bits_Len64)], sch := [], ob := [], qs := [140] }
@[go_sem] theorem cx_wide_Len_e : cx_wide_Len.gs = none ∧ cx_wide_Len.md = 0 ∧ cx_wide_Len.T = T ∧ cx_wide_Len.E = E ∧ cx_wide_Len.cs = [(140, c_math_bits_Len64)] ∧ ∀ d, (cx_wide_Len.ob).contains d = false := ⟨rfl, rfl, rfl, rfl, rfl, fun _ => rfl⟩
theorem cok_wide_Len : COk Tryz.prog (cx_wide_Len) := cok_of rfl (.cons ok_math_bits_Len64 (.nil)) (.cons (fun _ => fn1_quiet) (.nil)) (.nil)
theorem ok_wide_Len : Ok Tryz.prog 217 c_wide_Len := by
  refine ok_fn1 cok_wide_Len mixed Tryz.func217 rfl (by kernel_rfl) (by kernel_rfl) rfl ?_
  intro x om hw _
  have hx := wf_w hw
  have hb := bl_split x
  have h1 : bl (x / 18446744073709551616) ≤ 64 := bl_lt.2 (by omega)
  simp only [go_sem, Tryz.f217, kn1, kn2, kn3, kn4, kn5, kn6, kn7, kn8, kn9, kz1, kz2, kz3, kz4, kz5, kz6, kz7, kz8, kz9, kz0, reduceCtorEq, String.reduceEq]
  exact ⟨by omega, fun h => ⟨by omega, fun _ => ⟨by omega, by rw [hb, if_neg (by omega)]; omega⟩⟩, fun h => ⟨by omega, fun _ => by rw [hb, if_pos (by omega)]⟩⟩
theorem shr_div (x k : Nat) : x >>> k = x / 2 ^ k := Nat.shiftRight_eq_div_pow x k
theorem right_lo {x k : Nat} (h0 : 0 < k) (h : k < 64) : (x % 18446744073709551616) >>> k ||| ((x / 18446744073709551616) <<< (64 - k)) % 18446744073709551616 = (x >>> k) % 18446744073709551616 := by
  apply Nat.eq_of_testBit_eq
  intro i
  have e : (18446744073709551616 : Nat) = 2 ^ 64 := rfl
  rw [e, Nat.testBit_or, Nat.testBit_shiftRight, Nat.testBit_mod_two_pow, Nat.testBit_mod_two_pow, Nat.testBit_mod_two_pow, Nat.testBit_shiftLeft, Nat.testBit_shiftRight, Nat.testBit_div_two_pow]
  by_cases h1 : k + i < 64
  · have h2 : i < 64 := by omega
    have h3 : ¬ 64 - k ≤ i := by omega
    simp [h1, h2, h3]
  · by_cases h2 : i < 64
    · have h3 : 64 - k ≤ i := by omega
      have h4 : i - (64 - k) + 64 = k + i := by omega
      have h5 : 64 + (i - (64 - k)) = k + i := by omega
      simp [h1, h2, h3, h4, h5]
    · simp [h1, h2]
theorem right_hi (x k : Nat) : (x / 18446744073709551616) >>> k = (x >>> k) / 18446744073709551616 := by
  rw [shr_div, shr_div, Nat.div_div_eq_div_mul, Nat.div_div_eq_div_mul, Nat.mul_comm]
@[go_sem] noncomputable def c_wide_Right : Cn := fn2 tW tZ (fun _ _ => True) fun x i => vW (x >>> i.toNat)
noncomputable def cx_wide_Right : Cx := { T := T, E := E, cs := [], sch := [(5, false, .take 0 (.take 1 (.take 2 (.take 3 (.take 4 (.take 5 (.take 6 (.take 7 (.take 8 (.take 9 (.take 10 (.take 11 (.take 12 (.take 13 (.take 14 (.alt 15 (.done) .no))))))))))))))))], ob := [], qs := [] }
@[go_sem] theorem cx_wide_Right_e : cx_wide_Right.gs = none ∧ cx_wide_Right.md = 0 ∧ cx_wide_Right.T = T ∧ cx_wide_Right.E = E ∧ cx_wide_Right.cs = [] ∧ cx_wide_Right.sch = [(5, false, .take 0 (.take 1 (.take 2 (.take 3 (.take 4 (.take 5 (.take 6 (.take 7 (.take 8 (.take 9 (.take 10 (.take 11 (.take 12 (.take 13 (.take 14 (.alt 15 (.done) .no))))))))))))))))] ∧ ∀ d, (cx_wide_Right.ob).contains d = false := ⟨rfl, rfl, rfl, rfl, rfl, rfl, fun _ => rfl⟩
theorem cok_wide_Right : COk Tryz.prog (cx_wide_Right) := cok_of rfl (.nil) (.nil) (.nil)
theorem ok_wide_Right : Ok Tryz.prog 171 c_wide_Right := by
  refine ok_fn2 cok_wide_Right mixed Tryz.func171 rfl (by kernel_rfl) (by kernel_rfl) rfl ?_
  intro x i om hw _
  have hx := wf_w hw
  simp only [go_sem, Tryz.f171, kn1, kn2, kn3, kn4, kn5, kn6, kn7, kn8, kn9, kz1, kz2, kz3, kz4, kz5, kz6, kz7, kz8, kz9, kz0, reduceCtorEq, String.reduceEq]
  have e : (18446744073709551616 : Nat) = 2 ^ 64 := rfl
  refine ⟨fun h => ?_, fun h => ⟨fun h1 => ?_, fun h1 => ?_⟩⟩
  · rw [show i.toNat = 0 by omega, Nat.shiftRight_zero]
    exact ⟨by omega, by omega, by omega, rfl, rfl⟩
  · have hs : x >>> i.toNat < 18446744073709551616 := by
      rw [shr_div]
      refine Nat.div_lt_of_lt_mul ?_
      have : 2 ^ 64 ≤ 2 ^ i.toNat := Nat.pow_le_pow_right (by omega) (by omega)
      calc x < 2 ^ 64 * 18446744073709551616 := by omega
        _ ≤ _ := Nat.mul_le_mul_right _ this
    refine ⟨by omega, by omega, by omega, by omega, by omega, ?_, ?_⟩
    · rw [Nat.div_eq_of_lt hs]
    · rw [Nat.mod_eq_of_lt hs]
      by_cases h2 : i ≤ 128
      · rw [e, ← Nat.shiftRight_eq_div_pow, ← Nat.shiftRight_add]
        congr 1; omega
      · rw [shr_div, shr_div, Nat.div_eq_of_lt, Nat.div_eq_of_lt]
        · have : 2 ^ 128 ≤ 2 ^ i.toNat := Nat.pow_le_pow_right (by omega) (by omega)
          omega
        · rw [show (min i 128 - 64).toNat = 64 by omega]; omega
  · have hi : (64 - i).toNat = 64 - i.toNat := by omega
    rw [hi]
    exact ⟨by omega, by omega, by omega, by omega, by omega, by omega, by omega, by omega, by omega, right_hi _ _, right_lo (by omega) (by omega)⟩
@[go_sem] noncomputable def c_wide_Bit : Cn := fn2 tW tZ (fun _ _ => True) fun x i => .z (tb x i)
noncomputable def cx_wide_Bit : Cx := { T := T, E := E, cs := [(171, c_wide_Right)], sch := [], ob := [], qs := [171] }
@[go_sem] theorem cx_wide_Bit_e : cx_wide_Bit.gs = none ∧ cx_wide_Bit.md = 0 ∧ cx_wide_Bit.T = T ∧ cx_wide_Bit.E = E ∧ cx_wide_Bit.cs = [(171, c_wide_Right)] ∧ ∀ d, (cx_wide_Bit.ob).contains d = false := ⟨rfl, rfl, rfl, rfl, rfl, fun _ => rfl⟩
theorem cok_wide_Bit : COk Tryz.prog (cx_wide_Bit) := cok_of rfl (.cons ok_wide_Right (.nil)) (.cons (fun _ => fn2_quiet) (.nil)) (.nil)
theorem ok_wide_Bit : Ok Tryz.prog 211 c_wide_Bit := by
  refine ok_fn2 cok_wide_Bit mixed Tryz.func211 rfl (by kernel_rfl) (by kernel_rfl) rfl ?_
  intro x i om hw _
  have hx := wf_w hw
  simp only [go_sem, Tryz.f211, kn1, kn2, kn3, kn4, kn5, kn6, kn7, kn8, kn9, kz1, kz2, kz3, kz4, kz5, kz6, kz7, kz8, kz9, kz0, reduceCtorEq, String.reduceEq, tW_pair]
  refine ⟨fun h => ?_, fun h => ⟨by omega, fun _ => ⟨?_, ?_⟩⟩⟩
  · unfold tb; rw [if_neg (by omega)]
  · rw [Nat.and_one_is_mod]; omega
  · unfold tb
    have e : (18446744073709551616 : Nat) = 2 ^ 64 := rfl
    have h2 : x.testBit i.toNat = decide (x >>> i.toNat % 2 = 1) := by rw [Nat.testBit_eq_decide_div_mod_eq, Nat.shiftRight_eq_div_pow]
    rw [Nat.and_one_is_mod, h2]
    by_cases h3 : x >>> i.toNat % 2 = 1
    · rw [if_pos ⟨by omega, decide_eq_true h3⟩]; omega
    · rw [if_neg (fun h => h3 (of_decide_eq_true h.2))]; omega
end Go.Proofs.YteomkgcepiecjaaGreat.I
/- wide: Add64, Sub64, Mul64; Of, Full, Add, Sub, Left. -/
namespace Go.Proofs.YteomkgcepiecjaaGreat.I
open Go
open Nat renaming reduceEqDiff → kn1, reduceBEq → kn2, reducePow → kn3, reduceMod → kn4, reduceAdd → kn5, reduceSub → kn6, reduceMul → kn7, reduceDiv → kn8, reduceLeDiff → kn9, reduceLT → kn0, zero_lt_one → kq1, zero_add → kq2, zero_le → kq3, le_refl → kq4
open Int renaming reduceToNat → kz1, reduceAdd → kz2, reduceSub → kz3, reduceMul → kz4, reduceDiv → kz5, reduceMod → kz6, reduceLE → kz7, reduceLT → kz8, reduceNeg → kz9, reduceEq → kz0
set_option maxRecDepth 10000
set_option linter.unusedSimpArgs false
set_option linter.unusedVariables false
theorem rep_pair {X : Lay} {a b : Nat} (ha : a < 18446744073709551616) (hb : b < 18446744073709551616) : Rep X (.tuple #[.int .u64 (a : Int), .int .u64 (b : Int)]) (.tup [.n .u64 a, .n .u64 b]) := by
  refine .tup _ _ rfl fun k h h' => ?_
  match k, h with
  | 0, _ => exact .n _ _ rfl ha
  | 1, _ => exact .n _ _ rfl hb
theorem rep_u64 {X : Lay} {v : Value} {x : Nat} (h : Rep X v (.n .u64 x)) : v = .int .u64 (x : Int) ∧ x < 18446744073709551616 := by
  cases h with | n _ _ _ h => exact ⟨rfl, h⟩
@[go_sem] noncomputable def c_math_bits_Add64 : Cn := fn3 (tN .u64) (tN .u64) (tN .u64) (fun _ _ c => c ≤ 1) fun x y c => .tup [.n .u64 ((x + y + c) % 18446744073709551616), .n .u64 ((x + y + c) / 18446744073709551616)]
def bor64 (x y b : Nat) : Nat := if x < y + b then 1 else 0
@[go_sem] noncomputable def c_math_bits_Sub64 : Cn := fn3 (tN .u64) (tN .u64) (tN .u64) (fun _ _ c => c ≤ 1) fun x y c => .tup [.n .u64 ((x + 18446744073709551616 - y - c) % 18446744073709551616), .n .u64 (bor64 x y c)]
theorem three_u64 {X : Lay} {vs : List Value} {args : List V} {om : Om} {Q : V → Om → Prop} {pre : Nat → Nat → Nat → Prop} {g : Nat → Nat → Nat → V} (hr : RepL X vs args) (hc : @fn3 _ _ _ (tN .u64) (tN .u64) (tN .u64) pre g args om ⟨Q⟩) :
    ∃ x y z : Nat, vs.toArray = #[.int .u64 (x : Int), .int .u64 (y : Int), .int .u64 (z : Int)] ∧ x < 18446744073709551616 ∧ y < 18446744073709551616 ∧ pre x y z ∧ Q (g x y z) om := by
  unfold fn3 at hc
  split at hc <;> first | exact hc.elim | skip
  rename_i a b c
  obtain ⟨x, hx, hc⟩ := so_inv hc
  obtain ⟨y, hy, hc⟩ := so_inv hc
  obtain ⟨z, hz, h1, h2⟩ := so_inv hc
  obtain rfl := (tN .u64).h2 _ _ hx
  obtain rfl := (tN .u64).h2 _ _ hy
  obtain rfl := (tN .u64).h2 _ _ hz
  cases hr with | cons r1 hr =>
  cases hr with | cons r2 hr =>
  cases hr with | cons r3 hr =>
  cases hr
  obtain ⟨rfl, l1⟩ := rep_u64 r1
  obtain ⟨rfl, l2⟩ := rep_u64 r2
  obtain ⟨rfl, l3⟩ := rep_u64 r3
  exact ⟨x, y, z, rfl, l1, l2, h1, h2⟩
theorem okX_math_bits_Add64 : OkX Tryz.prog 90 c_math_bits_Add64 where
  mono := fn3_mono
  gives := fun X om args vs Q G hr hcl hc => by
    obtain ⟨x, y, z, e, l1, l2, h1, h2⟩ := three_u64 hr hc
    refine ⟨_, _, ?_, rep_pair ?_ ?_, h2⟩
    · rw [e, run_callFunc_extern Tryz.func90 (by kernel_rfl) (by kernel_rfl) (by kernel_rfl) (e := add64Entry) (by kernel_rfl), run_add64 x y z (by omega) (by omega) (by omega) (by omega)]
      rfl
    · omega
    · omega
theorem okX_math_bits_Sub64 : OkX Tryz.prog 117 c_math_bits_Sub64 where
  mono := fn3_mono
  gives := fun X om args vs Q G hr hcl hc => by
    obtain ⟨x, y, z, e, l1, l2, h1, h2⟩ := three_u64 hr hc
    refine ⟨_, _, ?_, rep_pair ?_ ?_, h2⟩
    · rw [e, run_callFunc_extern Tryz.func117 (by kernel_rfl) (by kernel_rfl) (by kernel_rfl) (e := Proofs.sub64Entry) (by kernel_rfl), Proofs.run_sub64 x y z h1]
      rfl
    · omega
    · unfold bor64; split <;> omega
@[go_sem] noncomputable def c_wide_Of : Cn := fn1 (tN .u64) (fun _ => True) vW
noncomputable def cx_wide_Of : Cx := { T := T, E := E, cs := [], sch := [], ob := [], qs := [] }
@[go_sem] theorem cx_wide_Of_e : cx_wide_Of.gs = none ∧ cx_wide_Of.md = 0 ∧ cx_wide_Of.T = T ∧ cx_wide_Of.E = E ∧ cx_wide_Of.cs = [] ∧ ∀ d, (cx_wide_Of.ob).contains d = false := ⟨rfl, rfl, rfl, rfl, rfl, fun _ => rfl⟩
theorem cok_wide_Of : COk Tryz.prog (cx_wide_Of) := cok_of rfl (.nil) (.nil) (.nil)
theorem ok_wide_Of : Ok Tryz.prog 17 c_wide_Of := by
  refine ok_fn1 cok_wide_Of mixed Tryz.func17 rfl (by kernel_rfl) (by kernel_rfl) rfl ?_
  intro x om hw _
  have hx : x < 18446744073709551616 := by have := hw.1; simpa [tN, V.wf, IntKind.bits] using this
  simp only [go_sem, Tryz.f17, kn1, kn2, kn3, kn4, kn5, kn6, kn7, kn8, kn9, kz1, kz2, kz3, kz4, kz5, kz6, kz7, kz8, kz9, kz0, reduceCtorEq, String.reduceEq]
  exact ⟨by omega, by omega, by omega, by omega⟩
theorem mul_hi (x y : Nat) (hx : x < 18446744073709551616) (hy : y < 18446744073709551616) : x * y / 18446744073709551616 =
    (x / 4294967296 * (y / 4294967296) + (x / 4294967296 * (y % 4294967296) + x % 4294967296 * (y % 4294967296) / 4294967296) / 4294967296 + ((x / 4294967296 * (y % 4294967296) + x % 4294967296 * (y % 4294967296) / 4294967296) % 4294967296 + x % 4294967296 * (y / 4294967296)) / 4294967296) := by
  obtain ⟨a, ha⟩ : ∃ a, x / 4294967296 = a := ⟨_, rfl⟩
  obtain ⟨b, hb⟩ : ∃ b, x % 4294967296 = b := ⟨_, rfl⟩
  obtain ⟨c, hc⟩ : ∃ c, y / 4294967296 = c := ⟨_, rfl⟩
  obtain ⟨d, hd⟩ : ∃ d, y % 4294967296 = d := ⟨_, rfl⟩
  have ex : x = a * 4294967296 + b := by omega
  have ey : y = c * 4294967296 + d := by omega
  rw [ha, hb, hc, hd]
  have e : x * y = a * c * 18446744073709551616 + (a * d + b * c) * 4294967296 + b * d := by
    rw [ex, ey, Nat.add_mul, Nat.mul_add, Nat.mul_add]
    have e1 : a * 4294967296 * (c * 4294967296) = a * c * 18446744073709551616 := by
      rw [Nat.mul_mul_mul_comm]
    have e2 : a * 4294967296 * d = a * d * 4294967296 := by rw [Nat.mul_right_comm]
    have e3 : b * (c * 4294967296) = b * c * 4294967296 := by rw [Nat.mul_assoc]
    rw [e1, e2, e3, Nat.add_mul]; omega
  rw [e]
  generalize a * c = p; generalize a * d = q; generalize b * c = r; generalize b * d = s
  omega
@[go_sem] noncomputable def c_math_bits_Mul64 : Cn := fn2 (tN .u64) (tN .u64) (fun _ _ => True) fun x y => .tup [.n .u64 (x * y / 18446744073709551616), .n .u64 (x * y % 18446744073709551616)]
noncomputable def cx_math_bits_Mul64 : Cx := { T := T, E := E, cs := [], sch := [], ob := [], qs := [] }
@[go_sem] theorem cx_math_bits_Mul64_e : cx_math_bits_Mul64.gs = none ∧ cx_math_bits_Mul64.md = 0 ∧ cx_math_bits_Mul64.T = T ∧ cx_math_bits_Mul64.E = E ∧ cx_math_bits_Mul64.cs = [] ∧ ∀ d, (cx_math_bits_Mul64.ob).contains d = false := ⟨rfl, rfl, rfl, rfl, rfl, fun _ => rfl⟩
theorem cok_math_bits_Mul64 : COk Tryz.prog (cx_math_bits_Mul64) := cok_of rfl (.nil) (.nil) (.nil)
theorem ok_math_bits_Mul64 : Ok Tryz.prog 122 c_math_bits_Mul64 := by
  refine ok_fn2 cok_math_bits_Mul64 mixed Tryz.func122 rfl (by kernel_rfl) (by kernel_rfl) rfl ?_
  intro x y om hw _
  have hx : x < 18446744073709551616 := by have := hw.1; simpa [tN, V.wf, IntKind.bits] using this
  have hy : y < 18446744073709551616 := by have := hw.2.1; simpa [tN, V.wf, IntKind.bits] using this
  simp only [go_sem, Tryz.f122, kn1, kn2, kn3, kn4, kn5, kn6, kn7, kn8, kn9, kz1, kz2, kz3, kz4, kz5, kz6, kz7, kz8, kz9, kz0, reduceCtorEq, String.reduceEq]
  rw [mul_hi x y hx hy]
  have m : ∀ z : Nat, z &&& 4294967295 = z % 4294967296 := fun z => Nat.and_two_pow_sub_one_eq_mod z 32
  have sh : ∀ z : Nat, z >>> 32 = z / 4294967296 := fun z => Nat.shiftRight_eq_div_pow z 32
  simp only [m, sh]
  have b : ∀ a c : Nat, a < 4294967296 → c < 4294967296 → a * c ≤ 18446744065119617025 := fun a c h1 h2 => Nat.mul_le_mul (show a ≤ 4294967295 by omega) (show c ≤ 4294967295 by omega)
  have b1 := b (x / 4294967296) (y / 4294967296) (by omega) (by omega)
  have b2 := b (x / 4294967296) (y % 4294967296) (by omega) (by omega)
  have b3 := b (x % 4294967296) (y / 4294967296) (by omega) (by omega)
  have b4 := b (x % 4294967296) (y % 4294967296) (by omega) (by omega)
  have t := mul_hi x y hx hy
  have tt : x * y / 18446744073709551616 < 18446744073709551616 := by
    refine Nat.div_lt_of_lt_mul ?_
    have := Nat.mul_lt_mul'' hx hy
    omega
  rw [t] at tt
  clear t
  revert b1 b2 b3 b4 tt
  generalize x / 4294967296 * (y / 4294967296) = p; generalize x / 4294967296 * (y % 4294967296) = q; generalize x % 4294967296 * (y / 4294967296) = r; generalize x % 4294967296 * (y % 4294967296) = s
  intro b1 b2 b3 b4 tt
  omega
@[go_sem] noncomputable def c_wide_Full : Cn := fn2 (tN .u64) (tN .u64) (fun _ _ => True) fun x y => vW (x * y)
noncomputable def cx_wide_Full : Cx := { T := T, E := E, cs := [(122, c_math_bits_Mul64)], sch := [], ob := [], qs := [122] }
@[go_sem] theorem cx_wide_Full_e : cx_wide_Full.gs = none ∧ cx_wide_Full.md = 0 ∧ cx_wide_Full.T = T ∧ cx_wide_Full.E = E ∧ cx_wide_Full.cs = [(122, c_math_bits_Mul64)] ∧ ∀ d, (cx_wide_Full.ob).contains d = false := ⟨rfl, rfl, rfl, rfl, rfl, fun _ => rfl⟩
theorem cok_wide_Full : COk Tryz.prog (cx_wide_Full) := cok_of rfl (.cons ok_math_bits_Mul64 (.nil)) (.cons (fun _ => fn2_quiet) (.nil)) (.nil)
theorem ok_wide_Full : Ok Tryz.prog 101 c_wide_Full := by
  refine ok_fn2 cok_wide_Full mixed Tryz.func101 rfl (by kernel_rfl) (by kernel_rfl) rfl ?_
  intro x y om hw _
  simp only [go_sem, Tryz.f101, kn1, kn2, kn3, kn4, kn5, kn6, kn7, kn8, kn9, kz1, kz2, kz3, kz4, kz5, kz6, kz7, kz8, kz9, kz0, reduceCtorEq, String.reduceEq]
  exact fun _ => Nat.zero_lt_one
@[go_sem] noncomputable def c_wide_Add : Cn := fn2 tW tW (fun _ _ => True) fun x y => .tup [vW ((x + y) % 340282366920938463463374607431768211456), .b (decide (340282366920938463463374607431768211456 ≤ x + y))]
noncomputable def cx_wide_Add : Cx := { T := T, E := E, cs := [(90, c_math_bits_Add64)], sch := [], ob := [], qs := [90] }
@[go_sem] theorem cx_wide_Add_e : cx_wide_Add.gs = none ∧ cx_wide_Add.md = 0 ∧ cx_wide_Add.T = T ∧ cx_wide_Add.E = E ∧ cx_wide_Add.cs = [(90, c_math_bits_Add64)] ∧ ∀ d, (cx_wide_Add.ob).contains d = false := ⟨rfl, rfl, rfl, rfl, rfl, fun _ => rfl⟩
theorem cok_wide_Add : COk Tryz.prog (cx_wide_Add) := cok_of rfl (.consX okX_math_bits_Add64 (.nil)) (.cons (fun _ => fn3_quiet) (.nil)) (.nil)
theorem ok_wide_Add : Ok Tryz.prog 35 c_wide_Add := by
  refine ok_fn2 cok_wide_Add mixed Tryz.func35 rfl (by kernel_rfl) (by kernel_rfl) rfl ?_
  intro x y om hw _
  have hx := wf_w hw
  have hy := wf_w hw.2
  simp only [go_sem, Tryz.f35, kn1, kn2, kn3, kn4, kn5, kn6, kn7, kn8, kn9, kz1, kz2, kz3, kz4, kz5, kz6, kz7, kz8, kz9, kz0, reduceCtorEq, String.reduceEq]
  refine ⟨by omega, by omega, fun _ => ⟨by omega, by omega, by omega, fun _ => ⟨by omega, by omega, ⟨by omega, by omega⟩, ?_⟩⟩⟩
  exact decide_eq_decide.2 ⟨fun h => by omega, fun h => by omega⟩
@[go_sem] noncomputable def c_wide_Sub : Cn := fn2 tW tW (fun _ _ => True) fun x y => .tup [vW ((x + 340282366920938463463374607431768211456 - y) % 340282366920938463463374607431768211456), .b (decide (x < y))]
noncomputable def cx_wide_Sub : Cx := { T := T, E := E, cs := [(117, c_math_bits_Sub64)], sch := [], ob := [], qs := [117] }
@[go_sem] theorem cx_wide_Sub_e : cx_wide_Sub.gs = none ∧ cx_wide_Sub.md = 0 ∧ cx_wide_Sub.T = T ∧ cx_wide_Sub.E = E ∧ cx_wide_Sub.cs = [(117, c_math_bits_Sub64)] ∧ ∀ d, (cx_wide_Sub.ob).contains d = false := ⟨rfl, rfl, rfl, rfl, rfl, fun _ => rfl⟩
theorem cok_wide_Sub : COk Tryz.prog (cx_wide_Sub) := cok_of rfl (.consX okX_math_bits_Sub64 (.nil)) (.cons (fun _ => fn3_quiet) (.nil)) (.nil)
theorem ok_wide_Sub : Ok Tryz.prog 87 c_wide_Sub := by
  refine ok_fn2 cok_wide_Sub mixed Tryz.func87 rfl (by kernel_rfl) (by kernel_rfl) rfl ?_
  intro x y om hw _
  have hx := wf_w hw
  have hy := wf_w hw.2
  simp only [go_sem, Tryz.f87, kn1, kn2, kn3, kn4, kn5, kn6, kn7, kn8, kn9, kz1, kz2, kz3, kz4, kz5, kz6, kz7, kz8, kz9, kz0, reduceCtorEq, String.reduceEq]
  obtain ⟨b, hb⟩ : ∃ b, bor64 (x % 18446744073709551616) (y % 18446744073709551616) 0 = b := ⟨_, rfl⟩
  obtain ⟨c, hc⟩ : ∃ c, bor64 (x / 18446744073709551616) (y / 18446744073709551616) b = c := ⟨_, rfl⟩
  rw [hb, hc]
  unfold bor64 at hb hc
  have hb' : (x % 18446744073709551616 < y % 18446744073709551616 ∧ b = 1) ∨ (¬ x % 18446744073709551616 < y % 18446744073709551616 ∧ b = 0) := by
    split at hb <;> omega
  have hc' : (x / 18446744073709551616 < y / 18446744073709551616 + b ∧ c = 1) ∨ (¬ x / 18446744073709551616 < y / 18446744073709551616 + b ∧ c = 0) := by
    split at hc <;> omega
  clear hb hc
  refine ⟨by omega, by omega, fun _ => ⟨by omega, by omega, by omega, fun _ => ⟨by omega, by omega, ⟨?_, ?_⟩, ?_⟩⟩⟩
  · omega
  · omega
  · exact decide_eq_decide.2 ⟨fun h => by omega, fun h => by omega⟩
@[go_sem] noncomputable def c_wide_Left : Cn := fn2 tW tZ (fun _ _ => True) fun x i => vW ((x <<< i.toNat) % 340282366920938463463374607431768211456)
noncomputable def cx_wide_Left : Cx := { T := T, E := E, cs := [], sch := [(5, false, .take 0 (.take 1 (.take 2 (.take 3 (.take 4 (.take 5 (.take 6 (.take 7 (.take 8 (.take 9 (.take 10 (.take 11 (.take 12 (.take 13 (.take 14 (.alt 15 (.done) .no))))))))))))))))], ob := [], qs := [] }
@[go_sem] theorem cx_wide_Left_e : cx_wide_Left.gs = none ∧ cx_wide_Left.md = 0 ∧ cx_wide_Left.T = T ∧ cx_wide_Left.E = E ∧ cx_wide_Left.cs = [] ∧ cx_wide_Left.sch = [(5, false, .take 0 (.take 1 (.take 2 (.take 3 (.take 4 (.take 5 (.take 6 (.take 7 (.take 8 (.take 9 (.take 10 (.take 11 (.take 12 (.take 13 (.take 14 (.alt 15 (.done) .no))))))))))))))))] ∧ ∀ d, (cx_wide_Left.ob).contains d = false := ⟨rfl, rfl, rfl, rfl, rfl, rfl, fun _ => rfl⟩
theorem cok_wide_Left : COk Tryz.prog (cx_wide_Left) := cok_of rfl (.nil) (.nil) (.nil)
theorem ok_wide_Left : Ok Tryz.prog 93 c_wide_Left := by
  refine ok_fn2 cok_wide_Left mixed Tryz.func93 rfl (by kernel_rfl) (by kernel_rfl) rfl ?_
  intro x i om hw _
  have hx := wf_w hw
  simp only [go_sem, Tryz.f93, kn1, kn2, kn3, kn4, kn5, kn6, kn7, kn8, kn9, kz1, kz2, kz3, kz4, kz5, kz6, kz7, kz8, kz9, kz0, reduceCtorEq, String.reduceEq]
  have e : (18446744073709551616 : Nat) = 2 ^ 64 := rfl
  have e' : (340282366920938463463374607431768211456 : Nat) = 2 ^ 128 := rfl
  refine ⟨fun h => ?_, fun h => ⟨fun h1 => ⟨by omega, by omega, by omega, by omega, by omega, ?_, ?_⟩, fun h1 => ⟨by omega, by omega, by omega, by omega, by omega, by omega, by omega, by omega, by omega, ?_, ?_⟩⟩⟩
  · rw [show i.toNat = 0 by omega, Nat.shiftLeft_zero]
    exact ⟨by omega, by omega, by omega, by omega, by omega⟩
  · apply Nat.eq_of_testBit_eq
    intro j
    rw [e, e', Nat.testBit_mod_two_pow, Nat.testBit_shiftLeft, Nat.testBit_mod_two_pow, Nat.testBit_div_two_pow, Nat.testBit_mod_two_pow, Nat.testBit_shiftLeft]
    by_cases h2 : i ≤ 128
    · by_cases h3 : j < 64
      · by_cases h4 : i.toNat ≤ j + 64
        · have h5 : (min i 128 - 64).toNat ≤ j := by omega
          have h6 : j - (min i 128 - 64).toNat < 64 := by omega
          have h7 : j - (min i 128 - 64).toNat = j + 64 - i.toNat := by omega
          have h8 : j + 64 < 128 := by omega
          simp only [h3, h4, h5, h6, h8, decide_true, Bool.true_and]; rw [h7]
        · have h5 : ¬ (min i 128 - 64).toNat ≤ j := by omega
          simp [h3, h4, h5]
      · have h8 : ¬ j + 64 < 128 := by omega
        simp [h3, h8]
    · have h4 : j + 64 < 128 → ¬ i.toNat ≤ j + 64 := by omega
      have h5 : j < 64 → ¬ (min i 128 - 64).toNat ≤ j := by omega
      by_cases h3 : j < 64
      · simp [h5 h3, h4 (by omega)]
      · have h8 : ¬ j + 64 < 128 := by omega
        simp [h3, h8]
  · apply Nat.eq_of_testBit_eq
    intro j
    rw [e, e', Nat.zero_testBit, Nat.testBit_mod_two_pow, Nat.testBit_mod_two_pow, Nat.testBit_shiftLeft]
    by_cases h3 : j < 64
    · have : ¬ i.toNat ≤ j := by omega
      simp [this]
    · simp [h3]
  · have h9 : (64 - i).toNat = 64 - i.toNat := by omega
    apply Nat.eq_of_testBit_eq
    intro j
    rw [h9, e, e', Nat.testBit_or, Nat.testBit_mod_two_pow, Nat.testBit_shiftLeft, Nat.testBit_div_two_pow, Nat.testBit_shiftRight, Nat.testBit_mod_two_pow, Nat.testBit_div_two_pow, Nat.testBit_mod_two_pow, Nat.testBit_shiftLeft]
    by_cases h3 : j < 64
    · have h8 : j + 64 < 128 := by omega
      have h7 : i.toNat ≤ j + 64 := by omega
      by_cases h4 : i.toNat ≤ j
      · have h5 : ¬ 64 - i.toNat + j < 64 := by omega
        have h6 : j - i.toNat + 64 = j + 64 - i.toNat := by omega
        simp only [h3, h4, h5, h7, h8, decide_true, Bool.true_and, decide_false, Bool.false_and, Bool.or_false]; rw [h6]
      · have h5 : 64 - i.toNat + j < 64 := by omega
        have h6 : 64 - i.toNat + j = j + 64 - i.toNat := by omega
        simp only [h3, h4, h5, h7, h8, decide_true, Bool.true_and, decide_false, Bool.false_and, Bool.and_false, Bool.false_or]; rw [h6]
    · have h8 : ¬ j + 64 < 128 := by omega
      have h5 : ¬ 64 - i.toNat + j < 64 := by omega
      simp [h3, h8, h5]
  · apply Nat.eq_of_testBit_eq
    intro j
    rw [e, e', Nat.testBit_mod_two_pow, Nat.testBit_shiftLeft, Nat.testBit_mod_two_pow, Nat.testBit_mod_two_pow, Nat.testBit_mod_two_pow, Nat.testBit_shiftLeft]
    by_cases h3 : j < 64
    · have h8 : j < 128 := by omega
      have h5 : j - i.toNat < 64 := by omega
      simp [h3, h8, h5]
    · simp [h3]
end Go.Proofs.YteomkgcepiecjaaGreat.I
/- wide: Compare, Cmp, Mul, Put. -/
namespace Go.Proofs.YteomkgcepiecjaaGreat.I
open Go
open Nat renaming reduceEqDiff → kn1, reduceBEq → kn2, reducePow → kn3, reduceMod → kn4, reduceAdd → kn5, reduceSub → kn6, reduceMul → kn7, reduceDiv → kn8, reduceLeDiff → kn9, reduceLT → kn0, zero_lt_one → kq1, zero_add → kq2, zero_le → kq3, le_refl → kq4
open Int renaming reduceToNat → kz1, reduceAdd → kz2, reduceSub → kz3, reduceMul → kz4, reduceDiv → kz5, reduceMod → kz6, reduceLE → kz7, reduceLT → kz8, reduceNeg → kz9, reduceEq → kz0
set_option maxRecDepth 10000
set_option linter.unusedSimpArgs false
set_option linter.unusedVariables false
theorem tW_lit {l : Nat} (h : l < 18446744073709551616) : tW.dec (.agg [.n .u64 0, .n .u64 l]) = some l := by
  have := tW_pair (h := 0) h
  rwa [Nat.zero_mul, Nat.zero_add] at this
def cmpN (x y : Nat) : Int := if x < y then -1 else if y < x then 1 else 0
@[go_sem] def c_cmp_isNaN_uint64 : Cn := fn1 (tN .u64) (fun _ => True) fun _ => .b false
noncomputable def cx_cmp_isNaN_uint64 : Cx := { T := T, E := E, cs := [], sch := [], ob := [], qs := [] }
@[go_sem] theorem cx_cmp_isNaN_uint64_e : cx_cmp_isNaN_uint64.gs = none ∧ cx_cmp_isNaN_uint64.md = 0 ∧ cx_cmp_isNaN_uint64.T = T ∧ cx_cmp_isNaN_uint64.E = E ∧ cx_cmp_isNaN_uint64.cs = [] ∧ ∀ d, (cx_cmp_isNaN_uint64.ob).contains d = false := ⟨rfl, rfl, rfl, rfl, rfl, fun _ => rfl⟩
theorem cok_cmp_isNaN_uint64 : COk Tryz.prog (cx_cmp_isNaN_uint64) := cok_of rfl (.nil) (.nil) (.nil)
theorem ok_cmp_isNaN_uint64 : Ok Tryz.prog 118 c_cmp_isNaN_uint64 := by
  refine ok_fn1 cok_cmp_isNaN_uint64 mixed Tryz.func118 rfl (by kernel_rfl) (by kernel_rfl) rfl ?_
  intro x om hw _
  simp only [go_sem, Tryz.f118, kn1, kn2, kn3, kn4, kn5, kn6, kn7, kn8, kn9, kz1, kz2, kz3, kz4, kz5, kz6, kz7, kz8, kz9, kz0, reduceCtorEq, String.reduceEq, kn0, kq1, kq2, kq3, kq4, Int.toNat_natCast]
@[go_sem] def c_cmp_Compare_uint64 : Cn := fn2 (tN .u64) (tN .u64) (fun _ _ => True) fun x y => .z (cmpN x y)
noncomputable def cx_cmp_Compare_uint64 : Cx := { T := T, E := E, cs := [(118, c_cmp_isNaN_uint64)], sch := [], ob := [], qs := [118] }
@[go_sem] theorem cx_cmp_Compare_uint64_e : cx_cmp_Compare_uint64.gs = none ∧ cx_cmp_Compare_uint64.md = 0 ∧ cx_cmp_Compare_uint64.T = T ∧ cx_cmp_Compare_uint64.E = E ∧ cx_cmp_Compare_uint64.cs = [(118, c_cmp_isNaN_uint64)] ∧ ∀ d, (cx_cmp_Compare_uint64.ob).contains d = false := ⟨rfl, rfl, rfl, rfl, rfl, fun _ => rfl⟩
theorem cok_cmp_Compare_uint64 : COk Tryz.prog (cx_cmp_Compare_uint64) := cok_of rfl (.cons ok_cmp_isNaN_uint64 (.nil)) (.cons (fun _ => fn1_quiet) (.nil)) (.nil)
theorem ok_cmp_Compare_uint64 : Ok Tryz.prog 91 c_cmp_Compare_uint64 := by
  refine ok_fn2 cok_cmp_Compare_uint64 mixed Tryz.func91 rfl (by kernel_rfl) (by kernel_rfl) rfl ?_
  intro x y om hw _
  simp only [go_sem, Tryz.f91, kn1, kn2, kn3, kn4, kn5, kn6, kn7, kn8, kn9, kz1, kz2, kz3, kz4, kz5, kz6, kz7, kz8, kz9, kz0, reduceCtorEq, String.reduceEq, kn0, kq1, kq2, kq3, kq4, Int.toNat_natCast]
  unfold cmpN
  refine ⟨fun h => by rw [if_pos h], fun h => ⟨fun h1 => by rw [if_neg h, if_pos h1], fun h1 => by rw [if_neg h, if_neg h1]⟩⟩
@[go_sem] noncomputable def c_wide_Cmp : Cn := fn2 tW tW (fun _ _ => True) fun x y => .z (cmpN x y)
noncomputable def cx_wide_Cmp : Cx := { T := T, E := E, cs := [(91, c_cmp_Compare_uint64)], sch := [], ob := [], qs := [91] }
@[go_sem] theorem cx_wide_Cmp_e : cx_wide_Cmp.gs = none ∧ cx_wide_Cmp.md = 0 ∧ cx_wide_Cmp.T = T ∧ cx_wide_Cmp.E = E ∧ cx_wide_Cmp.cs = [(91, c_cmp_Compare_uint64)] ∧ ∀ d, (cx_wide_Cmp.ob).contains d = false := ⟨rfl, rfl, rfl, rfl, rfl, fun _ => rfl⟩
theorem cok_wide_Cmp : COk Tryz.prog (cx_wide_Cmp) := cok_of rfl (.cons ok_cmp_Compare_uint64 (.nil)) (.cons (fun _ => fn2_quiet) (.nil)) (.nil)
theorem ok_wide_Cmp : Ok Tryz.prog 36 c_wide_Cmp := by
  refine ok_fn2 cok_wide_Cmp mixed Tryz.func36 rfl (by kernel_rfl) (by kernel_rfl) rfl ?_
  intro x y om hw _
  simp only [go_sem, Tryz.f36, kn1, kn2, kn3, kn4, kn5, kn6, kn7, kn8, kn9, kz1, kz2, kz3, kz4, kz5, kz6, kz7, kz8, kz9, kz0, reduceCtorEq, String.reduceEq, kn0, kq1, kq2, kq3, kq4, Int.toNat_natCast]
  refine ⟨fun h _ => ?_, fun h _ => ?_⟩ <;> unfold cmpN <;> (repeat' split) <;> first | rfl | omega
theorem mul_split (x y : Nat) : x * y % 340282366920938463463374607431768211456 =
    (x % 18446744073709551616 * (y % 18446744073709551616) / 18446744073709551616 + (x / 18446744073709551616 * (y % 18446744073709551616) + x % 18446744073709551616 * (y / 18446744073709551616))) % 18446744073709551616 * 18446744073709551616 + x % 18446744073709551616 * (y % 18446744073709551616) % 18446744073709551616 := by
  obtain ⟨a, ha⟩ : ∃ a, x / 18446744073709551616 = a := ⟨_, rfl⟩
  obtain ⟨b, hb⟩ : ∃ b, x % 18446744073709551616 = b := ⟨_, rfl⟩
  obtain ⟨c, hc⟩ : ∃ c, y / 18446744073709551616 = c := ⟨_, rfl⟩
  obtain ⟨d, hd⟩ : ∃ d, y % 18446744073709551616 = d := ⟨_, rfl⟩
  have ex : x = a * 18446744073709551616 + b := by omega
  have ey : y = c * 18446744073709551616 + d := by omega
  rw [ha, hb, hc, hd]
  have e : x * y = a * c * 340282366920938463463374607431768211456 + (a * d + b * c) * 18446744073709551616 + b * d := by
    rw [ex, ey, Nat.add_mul, Nat.mul_add, Nat.mul_add]
    have e1 : a * 18446744073709551616 * (c * 18446744073709551616) = a * c * 340282366920938463463374607431768211456 := by
      rw [Nat.mul_mul_mul_comm]
    have e2 : a * 18446744073709551616 * d = a * d * 18446744073709551616 := by rw [Nat.mul_right_comm]
    have e3 : b * (c * 18446744073709551616) = b * c * 18446744073709551616 := by rw [Nat.mul_assoc]
    rw [e1, e2, e3, Nat.add_mul]; omega
  rw [e]
  generalize a * c = p; generalize a * d = q; generalize b * c = r; generalize b * d = s
  omega
@[go_sem] noncomputable def c_wide_Mul : Cn := fn2 tW tW (fun _ _ => True) fun x y => vW (x * y % 340282366920938463463374607431768211456)
noncomputable def cx_wide_Mul : Cx := { T := T, E := E, cs := [(101, c_wide_Full)], sch := [], ob := [], qs := [101] }
@[go_sem] theorem cx_wide_Mul_e : cx_wide_Mul.gs = none ∧ cx_wide_Mul.md = 0 ∧ cx_wide_Mul.T = T ∧ cx_wide_Mul.E = E ∧ cx_wide_Mul.cs = [(101, c_wide_Full)] ∧ ∀ d, (cx_wide_Mul.ob).contains d = false := ⟨rfl, rfl, rfl, rfl, rfl, fun _ => rfl⟩
theorem cok_wide_Mul : COk Tryz.prog (cx_wide_Mul) := cok_of rfl (.cons ok_wide_Full (.nil)) (.cons (fun _ => fn2_quiet) (.nil)) (.nil)
theorem ok_wide_Mul : Ok Tryz.prog 66 c_wide_Mul := by
  refine ok_fn2 cok_wide_Mul mixed Tryz.func66 rfl (by kernel_rfl) (by kernel_rfl) rfl ?_
  intro x y om hw _
  have e := mul_split x y
  simp only [go_sem, Tryz.f66, kn1, kn2, kn3, kn4, kn5, kn6, kn7, kn8, kn9, kz1, kz2, kz3, kz4, kz5, kz6, kz7, kz8, kz9, kz0, reduceCtorEq, String.reduceEq, kn0, kq1, kq2, kq3, kq4, Int.toNat_natCast]
  refine fun _ => ⟨?_, ?_⟩ <;> omega
end Go.Proofs.YteomkgcepiecjaaGreat.I
/- affine: maps x -> a x + b of 128 bits. -/
namespace Go.Proofs.YteomkgcepiecjaaGreat.I
open Go
open Nat renaming reduceEqDiff → kn1, reduceBEq → kn2, reducePow → kn3, reduceMod → kn4, reduceAdd → kn5, reduceSub → kn6, reduceMul → kn7, reduceDiv → kn8, reduceLeDiff → kn9, reduceLT → kn0, zero_lt_one → kq1, zero_add → kq2, zero_le → kq3, le_refl → kq4
open Int renaming reduceToNat → kz1, reduceAdd → kz2, reduceSub → kz3, reduceMul → kz4, reduceDiv → kz5, reduceMod → kz6, reduceLE → kz7, reduceLT → kz8, reduceNeg → kz9, reduceEq → kz0
set_option maxRecDepth 10000
set_option linter.unusedSimpArgs false
set_option linter.unusedVariables false
structure D2 where
  a : Nat
  b : Nat
deriving DecidableEq
def v2 (s : D2) : V := .agg [.n .u64 (s.a / 18446744073709551616), .n .u64 (s.a % 18446744073709551616), .n .u64 (s.b / 18446744073709551616), .n .u64 (s.b % 18446744073709551616)]
@[go_sem] theorem v2_eq (s : D2) : v2 s = .agg [.n .u64 (s.a / 18446744073709551616), .n .u64 (s.a % 18446744073709551616), .n .u64 (s.b / 18446744073709551616), .n .u64 (s.b % 18446744073709551616)] := rfl
noncomputable def t2 : Ty D2 := Ty.by v2 fun s t h => by
  cases s; cases t
  simp only [v2_eq, V.agg.injEq, List.cons.injEq, V.n.injEq, true_and, and_true] at h
  simp only [D2.mk.injEq]
  omega
@[go_sem] theorem t2_enc (s : D2) : t2.enc s = .agg [.n .u64 (s.a / 18446744073709551616), .n .u64 (s.a % 18446744073709551616), .n .u64 (s.b / 18446744073709551616), .n .u64 (s.b % 18446744073709551616)] := rfl
@[go_sem] theorem t2_dec (a b : Nat) : t2.dec (.agg [.n .u64 (a / 18446744073709551616), .n .u64 (a % 18446744073709551616), .n .u64 (b / 18446744073709551616), .n .u64 (b % 18446744073709551616)]) = some ⟨a, b⟩ := t2.h1 ⟨a, b⟩
def D2.wf (s : D2) : Prop := s.a < 340282366920938463463374607431768211456 ∧ s.b < 340282366920938463463374607431768211456
theorem wf_2 {s : D2} {vs : List V} (h : wfs (.agg [.n .u64 (s.a / 18446744073709551616), .n .u64 (s.a % 18446744073709551616), .n .u64 (s.b / 18446744073709551616), .n .u64 (s.b % 18446744073709551616)] :: vs)) : s.wf := by
  have h1 : s.a / 18446744073709551616 < 18446744073709551616 := h.1.1
  have h2 : s.b / 18446744073709551616 < 18446744073709551616 := h.1.2.2.1
  exact ⟨by omega, by omega⟩
@[go_sem] theorem D2_eta (s : D2) : D2.mk s.a s.b = s := rfl
def aat (m : D2) (x : Nat) : Nat := (m.a * x + m.b) % 340282366920938463463374607431768211456
def athen (m k : D2) : D2 := ⟨k.a * m.a % 340282366920938463463374607431768211456, aat k m.b⟩
def aone : D2 := ⟨1, 0⟩
def apow (m : D2) : Nat → D2
  | 0 => aone
  | n + 1 => athen (apow m n) m
theorem aat_then (m k : D2) (x : Nat) : aat (athen m k) x = aat k (aat m x) := by
  unfold athen aat
  simp only
  rw [Nat.add_mod, Nat.mod_mul_mod, Nat.mod_mod, ← Nat.add_mod]
  conv => rhs; rw [Nat.add_mod, Nat.mul_mod, Nat.mod_mod, ← Nat.mul_mod, ← Nat.add_mod]
  congr 1
  rw [Nat.mul_add, Nat.mul_assoc]; omega
theorem athen_assoc (m k l : D2) : athen (athen m k) l = athen m (athen k l) := by
  have h := aat_then k l m.b
  unfold athen at h ⊢
  simp only [D2.mk.injEq]
  refine ⟨?_, h.symm⟩
  rw [Nat.mul_mod, Nat.mod_mod, ← Nat.mul_mod, Nat.mod_mul_mod, Nat.mul_assoc]
theorem athen_one {m : D2} (h : m.wf) : athen m aone = m := by
  unfold athen aat aone
  simp only [Nat.one_mul, Nat.add_zero]
  rw [Nat.mod_eq_of_lt h.1, Nat.mod_eq_of_lt h.2]
theorem one_athen {m : D2} (h : m.wf) : athen aone m = m := by
  unfold athen aat aone
  simp only [Nat.mul_one, Nat.mul_zero, Nat.zero_add]
  rw [Nat.mod_eq_of_lt h.1, Nat.mod_eq_of_lt h.2]
theorem aone_wf : aone.wf := ⟨by decide, by decide⟩
theorem athen_wf (m k : D2) : (athen m k).wf := ⟨Nat.mod_lt _ (by omega), Nat.mod_lt _ (by omega)⟩
theorem apow_wf (m : D2) : ∀ n, (apow m n).wf
  | 0 => aone_wf
  | _ + 1 => athen_wf _ _
theorem apow_add (m : D2) (n : Nat) : ∀ k, apow m (n + k) = athen (apow m n) (apow m k)
  | 0 => by simp only [Nat.add_zero, apow]; rw [athen_one (apow_wf m n)]
  | k + 1 => by rw [← Nat.add_assoc]; simp only [apow]; rw [apow_add m n k, athen_assoc]
theorem apow_one {m : D2} (h : m.wf) : apow m 1 = m := by simp only [apow]; rw [one_athen h]
theorem apow_dbl {m : D2} (h : m.wf) : ∀ n, apow (athen m m) n = apow m (2 * n)
  | 0 => rfl
  | n + 1 => by
    rw [show 2 * (n + 1) = 2 * n + 1 + 1 by omega]
    simp only [apow]; rw [apow_dbl h n, athen_assoc]
@[go_sem] noncomputable def c_affine_One : Cn := fn0 (v2 aone)
noncomputable def cx_affine_One : Cx := { T := T, E := E, cs := [(17, c_wide_Of)], sch := [], ob := [], qs := [17] }
@[go_sem] theorem cx_affine_One_e : cx_affine_One.gs = none ∧ cx_affine_One.md = 0 ∧ cx_affine_One.T = T ∧ cx_affine_One.E = E ∧ cx_affine_One.cs = [(17, c_wide_Of)] ∧ ∀ d, (cx_affine_One.ob).contains d = false := ⟨rfl, rfl, rfl, rfl, rfl, fun _ => rfl⟩
theorem cok_affine_One : COk Tryz.prog (cx_affine_One) := cok_of rfl (.cons ok_wide_Of (.nil)) (.cons (fun _ => fn1_quiet) (.nil)) (.nil)
theorem ok_affine_One : Ok Tryz.prog 236 c_affine_One := by
  refine ok_fn0 cok_affine_One mixed Tryz.func236 rfl (by kernel_rfl) (by kernel_rfl) rfl ?_
  intro om
  simp only [go_sem, Tryz.f236, kn1, kn2, kn3, kn4, kn5, kn6, kn7, kn8, kn9, kz1, kz2, kz3, kz4, kz5, kz6, kz7, kz8, kz9, kz0, reduceCtorEq, String.reduceEq, kn0, kq1, kq2, kq3, kq4, Int.toNat_natCast, aone]
@[go_sem] noncomputable def c_affine_At : Cn := fn2 t2 tW (fun _ _ => True) fun m x => vW (aat m x)
noncomputable def cx_affine_At : Cx := { T := T, E := E, cs := [(35, c_wide_Add), (66, c_wide_Mul)], sch := [(1, false, .take 0 (.take 1 (.take 2 (.take 4 (.take 5 (.alt 3 (.alt 6 (.take 7 (.take 8 (.take 9 (.alt 10 (.alt 11 (.take 12 (.done)) .no) .no)))) (.alt 10 (.alt 6 (.take 7 (.take 8 (.take 9 (.alt 11 (.take 12 (.done)) .no)))) .no) (.no))) (.alt 10 (.alt 3 (.alt 6 (.take 7 (.take 8 (.take 9 (.alt 11 (.take 12 (.done)) .no)))) .no) .no) (.no))))))))], ob := [], qs := [35, 66] }
@[go_sem] theorem cx_affine_At_e : cx_affine_At.gs = none ∧ cx_affine_At.md = 0 ∧ cx_affine_At.T = T ∧ cx_affine_At.E = E ∧ cx_affine_At.cs = [(35, c_wide_Add), (66, c_wide_Mul)] ∧ cx_affine_At.sch = [(1, false, .take 0 (.take 1 (.take 2 (.take 4 (.take 5 (.alt 3 (.alt 6 (.take 7 (.take 8 (.take 9 (.alt 10 (.alt 11 (.take 12 (.done)) .no) .no)))) (.alt 10 (.alt 6 (.take 7 (.take 8 (.take 9 (.alt 11 (.take 12 (.done)) .no)))) .no) (.no))) (.alt 10 (.alt 3 (.alt 6 (.take 7 (.take 8 (.take 9 (.alt 11 (.take 12 (.done)) .no)))) .no) .no) (.no))))))))] ∧ ∀ d, (cx_affine_At.ob).contains d = false := ⟨rfl, rfl, rfl, rfl, rfl, rfl, fun _ => rfl⟩
theorem cok_affine_At : COk Tryz.prog (cx_affine_At) := cok_of rfl (.cons ok_wide_Add (.cons ok_wide_Mul (.nil))) (.cons (fun _ => fn2_quiet) (.cons (fun _ => fn2_quiet) (.nil))) (.nil)
theorem ok_affine_At : Ok Tryz.prog 233 c_affine_At := by
  refine ok_fn2 cok_affine_At mixed Tryz.func233 rfl (by kernel_rfl) (by kernel_rfl) rfl ?_
  intro m x om hw _
  simp only [go_sem, Tryz.f233, kn1, kn2, kn3, kn4, kn5, kn6, kn7, kn8, kn9, kz1, kz2, kz3, kz4, kz5, kz6, kz7, kz8, kz9, kz0, reduceCtorEq, String.reduceEq, kn0, kq1, kq2, kq3, kq4, Int.toNat_natCast]
  have e : aat m x = (m.a * x % 340282366920938463463374607431768211456 + m.b) % 340282366920938463463374607431768211456 := by
    unfold aat; rw [Nat.mod_add_mod]
  rw [e]
  repeat' (first | with_reducible refine And.intro ?_ ?_ | with_reducible intro _)
  all_goals first | omega | rfl | trivial
@[go_sem] noncomputable def c_affine_Then : Cn := fn2 t2 t2 (fun _ _ => True) fun m k => v2 (athen m k)
noncomputable def cx_affine_Then : Cx := { T := T, E := E, cs := [(66, c_wide_Mul), (233, c_affine_At)], sch := [(1, false, .take 0 (.take 1 (.take 2 (.take 3 (.take 5 (.take 6 (.take 7 (.alt 4 (.alt 8 (.take 9 (.alt 10 (.done) .no)) .no) .no))))))))], ob := [], qs := [66, 233] }
@[go_sem] theorem cx_affine_Then_e : cx_affine_Then.gs = none ∧ cx_affine_Then.md = 0 ∧ cx_affine_Then.T = T ∧ cx_affine_Then.E = E ∧ cx_affine_Then.cs = [(66, c_wide_Mul), (233, c_affine_At)] ∧ cx_affine_Then.sch = [(1, false, .take 0 (.take 1 (.take 2 (.take 3 (.take 5 (.take 6 (.take 7 (.alt 4 (.alt 8 (.take 9 (.alt 10 (.done) .no)) .no) .no))))))))] ∧ ∀ d, (cx_affine_Then.ob).contains d = false := ⟨rfl, rfl, rfl, rfl, rfl, rfl, fun _ => rfl⟩
theorem cok_affine_Then : COk Tryz.prog (cx_affine_Then) := cok_of rfl (.cons ok_wide_Mul (.cons ok_affine_At (.nil))) (.cons (fun _ => fn2_quiet) (.cons (fun _ => fn2_quiet) (.nil))) (.nil)
theorem ok_affine_Then : Ok Tryz.prog 237 c_affine_Then := by
  refine ok_fn2 cok_affine_Then mixed Tryz.func237 rfl (by kernel_rfl) (by kernel_rfl) rfl ?_
  intro m k om hw _
  simp only [go_sem, Tryz.f237, kn1, kn2, kn3, kn4, kn5, kn6, kn7, kn8, kn9, kz1, kz2, kz3, kz4, kz5, kz6, kz7, kz8, kz9, kz0, reduceCtorEq, String.reduceEq, kn0, kq1, kq2, kq3, kq4, Int.toNat_natCast, athen]
  repeat' (first | with_reducible refine And.intro ?_ ?_ | with_reducible intro _)
  all_goals first | omega | rfl | trivial
theorem tb_0 (n : Nat) : tb n 0 = ((n % 2 : Nat) : Int) := by
  unfold tb
  rw [show n.testBit (Int.toNat 0) = decide (n % 2 = 1) by simp [Nat.testBit_zero]]
  by_cases h : n % 2 = 1
  · simp [h]
  · have h' : n % 2 = 0 := by omega
    simp [h']
theorem pow_odd {o k : D2} {j : Nat} (hk : k.wf) (h : j % 2 = 1) : athen (athen o k) (apow (athen k k) (j >>> 1)) = athen o (apow k j) := by
  rw [apow_dbl hk, Nat.shiftRight_eq_div_pow, athen_assoc]
  congr 1
  have e := apow_add k 1 (2 * (j / 2 ^ 1))
  rw [apow_one hk, show 1 + 2 * (j / 2 ^ 1) = j by omega] at e
  exact e.symm
theorem pow_even {o k : D2} {j : Nat} (hk : k.wf) (h : ¬ j % 2 = 1) : athen o (apow (athen k k) (j >>> 1)) = athen o (apow k j) := by
  rw [apow_dbl hk, Nat.shiftRight_eq_div_pow, show 2 * (j / 2 ^ 1) = j by omega]
@[go_sem] noncomputable def c_affine_Power : Cn := fn2 t2 tW (fun _ _ => True) fun m n => v2 (apow m n)
noncomputable def cx_affine_Power : Cx := { T := T, E := E, cs := [(171, c_wide_Right), (211, c_wide_Bit), (236, c_affine_One), (237, c_affine_Then)], sch := [(6, false, .take 0 (.take 1 (.alt 2 (.alt 3 (.alt 4 (.alt 5 (.alt 6 (.done) .no) .no) .no) .no) (.alt 3 (.alt 2 (.alt 4 (.alt 5 (.alt 6 (.done) .no) .no) .no) .no) (.no)))))], ob := [], qs := [171, 211, 236, 237], gs := some 0 }
@[go_sem] theorem cx_affine_Power_e : cx_affine_Power.gs = some 0 ∧ cx_affine_Power.md = 0 ∧ cx_affine_Power.T = T ∧ cx_affine_Power.E = E ∧ cx_affine_Power.cs = [(171, c_wide_Right), (211, c_wide_Bit), (236, c_affine_One), (237, c_affine_Then)] ∧ cx_affine_Power.sch = [(6, false, .take 0 (.take 1 (.alt 2 (.alt 3 (.alt 4 (.alt 5 (.alt 6 (.done) .no) .no) .no) .no) (.alt 3 (.alt 2 (.alt 4 (.alt 5 (.alt 6 (.done) .no) .no) .no) .no) (.no)))))] ∧ ∀ d, (cx_affine_Power.ob).contains d = false := ⟨rfl, rfl, rfl, rfl, rfl, rfl, fun _ => rfl⟩
theorem cok_affine_Power : COk Tryz.prog (cx_affine_Power) := cok_of rfl (.cons ok_wide_Right (.cons ok_wide_Bit (.cons ok_affine_One (.cons ok_affine_Then (.nil))))) (.cons (fun _ => fn2_quiet) (.cons (fun _ => fn2_quiet) (.cons (fun _ => fn0_quiet) (.cons (fun _ => fn2_quiet) (.nil))))) (.nil)
theorem ok_affine_Power : Ok Tryz.prog 234 c_affine_Power := by
  refine ok_fn2 cok_affine_Power mixed Tryz.func234 rfl (by kernel_rfl) (by kernel_rfl) rfl ?_
  intro m n om hw _
  simp only [go_sem, Tryz.f234, kn1, kn2, kn3, kn4, kn5, kn6, kn7, kn8, kn9, kz1, kz2, kz3, kz4, kz5, kz6, kz7, kz8, kz9, kz0, reduceCtorEq, String.reduceEq, kn0, kq1, kq2, kq3, kq4, Int.toNat_natCast]
  refine ⟨D2 × D2 × Nat, fun p => ⟨[.u, .u, .ref 2 1 4 0 0, .ref 3 1 2 0 0, .ref 4 1 4 0 0, .ref 5 1 4 0 0, .u, .u, .u, .u, .u, .u, .u, .u, .u, .u, .u, .u, .u, .u, .u, .u], [(5, ⟨4, true, [v2 p.1], false⟩), (4, ⟨4, true, [.agg [.n .u64 0, .n .u64 0, .n .u64 0, .n .u64 0]], false⟩), (3, ⟨2, true, [vW p.2.2], false⟩), (2, ⟨4, true, [v2 p.2.1], false⟩)], om⟩,
    fun p => athen p.1 (apow p.2.1 p.2.2) = apow m n ∧ p.2.1.wf ∧ p.1.wf ∧ p.2.2 < 340282366920938463463374607431768211456, fun p => p.2.2, ?_, ?_⟩
  · simp only [go_sem, kn1, kn2, kn3, kn4, kn5, kn6, kn7, kn8, kn9, kz1, kz2, kz3, kz4, kz5, kz6, kz7, kz8, kz9, kz0, reduceCtorEq, String.reduceEq, kn0, kq1, kq2, kq3, kq4, Int.toNat_natCast]
    have hm := wf_2 hw
    have hn := wf_w hw.2
    refine fun _ => ⟨fun h => ?_, fun h _ => ⟨fun h1 _ _ _ => ⟨(athen aone m, athen m m, n >>> 1), ⟨?_, athen_wf _ _, athen_wf _ _, ?_⟩, by simp only [and_self]⟩, fun h1 _ _ => ⟨(aone, athen m m, n >>> 1), ⟨?_, athen_wf _ _, aone_wf, ?_⟩, by simp only [and_self]⟩⟩⟩
    · rw [show n = 0 by omega]; simp only [apow, and_self]
    · rw [tb_0] at h1
      rw [pow_odd hm (by omega), one_athen (apow_wf _ _)]
    · rw [Nat.shiftRight_eq_div_pow]; simp only; omega
    · rw [tb_0] at h1
      rw [pow_even hm (by omega), one_athen (apow_wf _ _)]
    · rw [Nat.shiftRight_eq_div_pow]; simp only; omega
  · rintro ⟨o, k, j⟩ ⟨h1, h2, h3, h4⟩
    simp only at h1 h2 h3 h4
    simp only [go_sem, kn1, kn2, kn3, kn4, kn5, kn6, kn7, kn8, kn9, kz1, kz2, kz3, kz4, kz5, kz6, kz7, kz8, kz9, kz0, reduceCtorEq, String.reduceEq, kn0, kq1, kq2, kq3, kq4, Int.toNat_natCast]
    refine ⟨fun h => ?_, fun h _ => ⟨fun g1 _ _ _ => ⟨(athen o k, athen k k, j >>> 1), ⟨?_, athen_wf _ _, athen_wf _ _, ?_⟩, by simp only [and_self], ?_⟩, fun g1 _ _ => ⟨(o, athen k k, j >>> 1), ⟨?_, athen_wf _ _, h3, ?_⟩, by simp only [and_self], ?_⟩⟩⟩
    · rw [show j = 0 by omega] at h1
      simp only [apow, athen_one h3] at h1
      rw [h1]; simp only [and_self]
    · rw [tb_0] at g1
      rw [pow_odd h2 (by omega), h1]
    · rw [Nat.shiftRight_eq_div_pow]; simp only; omega
    · rw [Nat.shiftRight_eq_div_pow]; simp only; omega
    · rw [tb_0] at g1
      rw [pow_even h2 (by omega), h1]
    · rw [Nat.shiftRight_eq_div_pow]; simp only; omega
    · rw [Nat.shiftRight_eq_div_pow]; simp only; omega
end Go.Proofs.YteomkgcepiecjaaGreat.I
/- mix: Step, inverse, rounds, Mix, Word, Jump. -/
namespace Go.Proofs.YteomkgcepiecjaaGreat.I
open Go
open Nat renaming reduceEqDiff → kn1, reduceBEq → kn2, reducePow → kn3, reduceMod → kn4, reduceAdd → kn5, reduceSub → kn6, reduceMul → kn7, reduceDiv → kn8, reduceLeDiff → kn9, reduceLT → kn0, zero_lt_one → kq1, zero_add → kq2, zero_le → kq3, le_refl → kq4
open Int renaming reduceToNat → kz1, reduceAdd → kz2, reduceSub → kz3, reduceMul → kz4, reduceDiv → kz5, reduceMod → kz6, reduceLE → kz7, reduceLT → kz8, reduceNeg → kz9, reduceEq → kz0
set_option maxRecDepth 10000
set_option linter.unusedSimpArgs false
set_option linter.unusedVariables false
def mstep (x : Nat) : Nat := (x + 11400714819323198485) % 18446744073709551616
@[go_sem] def c_mix_Step : Cn := fn1 (tN .u64) (fun _ => True) fun x => .n .u64 (mstep x)
noncomputable def cx_mix_Step : Cx := { T := T, E := E, cs := [], sch := [], ob := [], qs := [] }
@[go_sem] theorem cx_mix_Step_e : cx_mix_Step.gs = none ∧ cx_mix_Step.md = 0 ∧ cx_mix_Step.T = T ∧ cx_mix_Step.E = E ∧ cx_mix_Step.cs = [] ∧ ∀ d, (cx_mix_Step.ob).contains d = false := ⟨rfl, rfl, rfl, rfl, rfl, fun _ => rfl⟩
theorem cok_mix_Step : COk Tryz.prog (cx_mix_Step) := cok_of rfl (.nil) (.nil) (.nil)
theorem ok_mix_Step : Ok Tryz.prog 129 c_mix_Step := by
  refine ok_fn1 cok_mix_Step mixed Tryz.func129 rfl (by kernel_rfl) (by kernel_rfl) rfl ?_
  intro x om hw _
  simp only [go_sem, Tryz.f129, kn1, kn2, kn3, kn4, kn5, kn6, kn7, kn8, kn9, kz1, kz2, kz3, kz4, kz5, kz6, kz7, kz8, kz9, kz0, reduceCtorEq, String.reduceEq, kn0, kq1, kq2, kq3, kq4, Int.toNat_natCast, mstep]
def newt (x : Nat) : Nat → Nat
  | 0 => x
  | k + 1 => newt x k * ((18446744073709551618 - x * newt x k % 18446744073709551616) % 18446744073709551616) % 18446744073709551616
@[go_sem] def c_mix_inverse : Cn := fn1 (tN .u64) (fun _ => True) fun x => .n .u64 (newt x 6)
noncomputable def cx_mix_inverse : Cx := { T := T, E := E, cs := [], sch := [], ob := [], qs := [] }
@[go_sem] theorem cx_mix_inverse_e : cx_mix_inverse.gs = none ∧ cx_mix_inverse.md = 0 ∧ cx_mix_inverse.T = T ∧ cx_mix_inverse.E = E ∧ cx_mix_inverse.cs = [] ∧ ∀ d, (cx_mix_inverse.ob).contains d = false := ⟨rfl, rfl, rfl, rfl, rfl, fun _ => rfl⟩
theorem cok_mix_inverse : COk Tryz.prog (cx_mix_inverse) := cok_of rfl (.nil) (.nil) (.nil)
theorem ok_mix_inverse : Ok Tryz.prog 142 c_mix_inverse := by
  refine ok_fn1 cok_mix_inverse mixed Tryz.func142 rfl (by kernel_rfl) (by kernel_rfl) rfl ?_
  intro x om hw _
  simp only [go_sem, Tryz.f142, kn1, kn2, kn3, kn4, kn5, kn6, kn7, kn8, kn9, kz1, kz2, kz3, kz4, kz5, kz6, kz7, kz8, kz9, kz0, reduceCtorEq, String.reduceEq, kn0, kq1, kq2, kq3, kq4, Int.toNat_natCast]
  refine ⟨Nat, fun k => ⟨[.n .u64 x, .u, .n .u64 0, .n .u64 (newt x k), .u, .z k, .u, .u, .u, .u, .u, .u, .u, .u, .u], [], om⟩, fun k => k ≤ 6, fun k => 6 - k, ⟨0, by omega, ?_⟩, ?_⟩
  · simp only [go_sem, kn1, kn2, kn3, kn4, kn5, kn6, kn7, kn8, kn9, kz1, kz2, kz3, kz4, kz5, kz6, kz7, kz8, kz9, kz0, reduceCtorEq, String.reduceEq, kn0, kq1, kq2, kq3, kq4, Int.toNat_natCast, newt]
  · intro k hk
    simp only [go_sem, kn1, kn2, kn3, kn4, kn5, kn6, kn7, kn8, kn9, kz1, kz2, kz3, kz4, kz5, kz6, kz7, kz8, kz9, kz0, reduceCtorEq, String.reduceEq, kn0, kq1, kq2, kq3, kq4, Int.toNat_natCast]
    refine ⟨fun h => ⟨by omega, k + 1, by omega, ⟨by rw [newt], by omega⟩, by omega⟩, fun h => ?_⟩
    rw [show k = 6 by omega]
def mixR (s t x : Nat) : Nat := (x ^^^ x >>> s) * t % 18446744073709551616
def mix1 (x : Nat) : Nat := mixR 30 13787848793156543929 x
def mix2 (x : Nat) : Nat := mixR 27 10723151780598845931 (mix1 x)
def mix3 (x : Nat) : Nat := mixR 31 1 (mix2 x)
def mixA (x k : Nat) : Nat := if k = 0 then x else if k = 1 then mix1 x else if k = 2 then mix2 x else mix3 x
theorem mixA_0 (x : Nat) : mixA x 0 = x := if_pos rfl
theorem mixA_1 (x : Nat) : mixA x 1 = mix1 x := by unfold mixA; rw [if_neg (by decide), if_pos rfl]
theorem mixA_2 (x : Nat) : mixA x 2 = mix2 x := by unfold mixA; rw [if_neg (by decide), if_neg (by decide), if_pos rfl]
theorem mixA_3 (x : Nat) : mixA x 3 = mix3 x := by unfold mixA; rw [if_neg (by decide), if_neg (by decide), if_neg (by decide)]
def mixTT (a b : Nat) : V := .agg [.z 30, .n .u64 13787848793156543929, .n .u64 a, .z 27, .n .u64 10723151780598845931, .n .u64 b, .z 31, .n .u64 1, .n .u64 1]
def mixT : V := mixTT (newt 13787848793156543929 6) (newt 10723151780598845931 6)
theorem mixT_eq : ∃ a b, mixT = mixTT a b := ⟨_, _, rfl⟩
@[go_sem] def c_mix_rounds : Cn := fn0 mixT
noncomputable def cx_mix_rounds : Cx := { T := T, E := E, cs := [(142, c_mix_inverse)], sch := [], ob := [], qs := [142] }
@[go_sem] theorem cx_mix_rounds_e : cx_mix_rounds.gs = none ∧ cx_mix_rounds.md = 0 ∧ cx_mix_rounds.T = T ∧ cx_mix_rounds.E = E ∧ cx_mix_rounds.cs = [(142, c_mix_inverse)] ∧ ∀ d, (cx_mix_rounds.ob).contains d = false := ⟨rfl, rfl, rfl, rfl, rfl, fun _ => rfl⟩
theorem cok_mix_rounds : COk Tryz.prog (cx_mix_rounds) := cok_of rfl (.cons ok_mix_inverse (.nil)) (.cons (fun _ => fn1_quiet) (.nil)) (.nil)
theorem ok_mix_rounds : Ok Tryz.prog 141 c_mix_rounds := by
  refine ok_fn0 cok_mix_rounds mixed Tryz.func141 rfl (by kernel_rfl) (by kernel_rfl) rfl ?_
  intro om
  simp only [go_sem, Tryz.f141, kn1, kn2, kn3, kn4, kn5, kn6, kn7, kn8, kn9, kz1, kz2, kz3, kz4, kz5, kz6, kz7, kz8, kz9, kz0, reduceCtorEq, String.reduceEq, kn0, kq1, kq2, kq3, kq4, Int.toNat_natCast, mixT, mixTT]
@[go_sem] def c_mix_Mix : Cn := fn1 (tN .u64) (fun _ => True) fun x => .n .u64 (mix3 x)
noncomputable def cx_mix_Mix : Cx := { T := T, E := E, cs := [(141, c_mix_rounds)], sch := [(4, false, .take 0 (.take 1 (.take 2 (.take 3 (.take 4 (.take 5 (.take 6 (.take 7 (.take 8 (.take 9 (.done)))))))))))], ob := [], qs := [141] }
@[go_sem] theorem cx_mix_Mix_e : cx_mix_Mix.gs = none ∧ cx_mix_Mix.md = 0 ∧ cx_mix_Mix.T = T ∧ cx_mix_Mix.E = E ∧ cx_mix_Mix.cs = [(141, c_mix_rounds)] ∧ cx_mix_Mix.sch = [(4, false, .take 0 (.take 1 (.take 2 (.take 3 (.take 4 (.take 5 (.take 6 (.take 7 (.take 8 (.take 9 (.done)))))))))))] ∧ ∀ d, (cx_mix_Mix.ob).contains d = false := ⟨rfl, rfl, rfl, rfl, rfl, rfl, fun _ => rfl⟩
theorem cok_mix_Mix : COk Tryz.prog (cx_mix_Mix) := cok_of rfl (.cons ok_mix_rounds (.nil)) (.cons (fun _ => fn0_quiet) (.nil)) (.nil)
theorem ok_mix_Mix : Ok Tryz.prog 136 c_mix_Mix := by
  refine ok_fn1 cok_mix_Mix mixed Tryz.func136 rfl (by kernel_rfl) (by kernel_rfl) rfl ?_
  intro x om hw _
  obtain ⟨a, b, hm⟩ := mixT_eq
  simp only [go_sem, Tryz.f136, kn1, kn2, kn3, kn4, kn5, kn6, kn7, kn8, kn9, kz1, kz2, kz3, kz4, kz5, kz6, kz7, kz8, kz9, kz0, reduceCtorEq, String.reduceEq, kn0, kq1, kq2, kq3, kq4, Int.toNat_natCast, hm]
  intro _
  refine ⟨Nat, fun k => ⟨[.n .u64 (mixA x k), .u, .n .u64 0, .u, .u, mixTT a b, .z k, .u, .u, .u, .u, .u, .u, .u, .u, .u, .u, .u, .u, .u], [], om⟩, fun k => k ≤ 3, fun k => 3 - k, ⟨0, by decide, ?_⟩, ?_⟩
  · simp only [go_sem, kn1, kn2, kn3, kn4, kn5, kn6, kn7, kn8, kn9, kz1, kz2, kz3, kz4, kz5, kz6, kz7, kz8, kz9, kz0, reduceCtorEq, String.reduceEq, kn0, kq1, kq2, kq3, kq4, Int.toNat_natCast, mixA_0, mixTT]
  · intro k hk
    obtain rfl | rfl | rfl | rfl : k = 0 ∨ k = 1 ∨ k = 2 ∨ k = 3 := by omega
    · simp only [go_sem, kn1, kn2, kn3, kn4, kn5, kn6, kn7, kn8, kn9, kz1, kz2, kz3, kz4, kz5, kz6, kz7, kz8, kz9, kz0, reduceCtorEq, String.reduceEq, kn0, kq1, kq2, kq3, kq4, Int.toNat_natCast, mixTT, mixA_0, mixA_1, mixA_2, mixA_3]
      refine ⟨1, by decide, ⟨?_, rfl⟩, by decide⟩
      rw [mixA_1, mix1, mixR]
    · simp only [go_sem, kn1, kn2, kn3, kn4, kn5, kn6, kn7, kn8, kn9, kz1, kz2, kz3, kz4, kz5, kz6, kz7, kz8, kz9, kz0, reduceCtorEq, String.reduceEq, kn0, kq1, kq2, kq3, kq4, Int.toNat_natCast, mixTT, mixA_0, mixA_1, mixA_2, mixA_3]
      refine ⟨2, by decide, ⟨?_, rfl⟩, by decide⟩
      rw [mixA_2, mix2, mixR]
    · simp only [go_sem, kn1, kn2, kn3, kn4, kn5, kn6, kn7, kn8, kn9, kz1, kz2, kz3, kz4, kz5, kz6, kz7, kz8, kz9, kz0, reduceCtorEq, String.reduceEq, kn0, kq1, kq2, kq3, kq4, Int.toNat_natCast, mixTT, mixA_0, mixA_1, mixA_2, mixA_3]
      refine ⟨3, by decide, ⟨?_, rfl⟩, by decide⟩
      rw [mixA_3, mix3, mixR]
    · simp only [go_sem, kn1, kn2, kn3, kn4, kn5, kn6, kn7, kn8, kn9, kz1, kz2, kz3, kz4, kz5, kz6, kz7, kz8, kz9, kz0, reduceCtorEq, String.reduceEq, kn0, kq1, kq2, kq3, kq4, Int.toNat_natCast, mixTT, mixA_0, mixA_1, mixA_2, mixA_3]
def mword (x : Nat) : Nat := mix3 (mstep x)
@[go_sem] def c_mix_Word : Cn := fn1 (tN .u64) (fun _ => True) fun x => .n .u64 (mword x)
noncomputable def cx_mix_Word : Cx := { T := T, E := E, cs := [(129, c_mix_Step), (136, c_mix_Mix)], sch := [], ob := [], qs := [129, 136] }
@[go_sem] theorem cx_mix_Word_e : cx_mix_Word.gs = none ∧ cx_mix_Word.md = 0 ∧ cx_mix_Word.T = T ∧ cx_mix_Word.E = E ∧ cx_mix_Word.cs = [(129, c_mix_Step), (136, c_mix_Mix)] ∧ ∀ d, (cx_mix_Word.ob).contains d = false := ⟨rfl, rfl, rfl, rfl, rfl, fun _ => rfl⟩
theorem cok_mix_Word : COk Tryz.prog (cx_mix_Word) := cok_of rfl (.cons ok_mix_Step (.cons ok_mix_Mix (.nil))) (.cons (fun _ => fn1_quiet) (.cons (fun _ => fn1_quiet) (.nil))) (.nil)
theorem ok_mix_Word : Ok Tryz.prog 128 c_mix_Word := by
  refine ok_fn1 cok_mix_Word mixed Tryz.func128 rfl (by kernel_rfl) (by kernel_rfl) rfl ?_
  intro x om hw _
  simp only [go_sem, Tryz.f128, kn1, kn2, kn3, kn4, kn5, kn6, kn7, kn8, kn9, kz1, kz2, kz3, kz4, kz5, kz6, kz7, kz8, kz9, kz0, reduceCtorEq, String.reduceEq, kn0, kq1, kq2, kq3, kq4, Int.toNat_natCast, mword]
  repeat' (first | with_reducible refine And.intro ?_ ?_ | with_reducible intro _)
  all_goals first | omega | rfl | trivial
def mjump (x n : Nat) : Nat := (x + n * 11400714819323198485) % 18446744073709551616
@[go_sem] noncomputable def c_mix_Jump : Cn := fn2 (tN .u64) tW (fun _ _ => True) fun x n => .n .u64 (mjump x n)
noncomputable def cx_mix_Jump : Cx := { T := T, E := E, cs := [(17, c_wide_Of), (66, c_wide_Mul)], sch := [(1, false, .take 0 (.take 1 (.alt 2 (.alt 3 (.take 4 (.take 5 (.take 6 (.done)))) .no) .no)))], ob := [], qs := [17, 66] }
@[go_sem] theorem cx_mix_Jump_e : cx_mix_Jump.gs = none ∧ cx_mix_Jump.md = 0 ∧ cx_mix_Jump.T = T ∧ cx_mix_Jump.E = E ∧ cx_mix_Jump.cs = [(17, c_wide_Of), (66, c_wide_Mul)] ∧ cx_mix_Jump.sch = [(1, false, .take 0 (.take 1 (.alt 2 (.alt 3 (.take 4 (.take 5 (.take 6 (.done)))) .no) .no)))] ∧ ∀ d, (cx_mix_Jump.ob).contains d = false := ⟨rfl, rfl, rfl, rfl, rfl, rfl, fun _ => rfl⟩
theorem cok_mix_Jump : COk Tryz.prog (cx_mix_Jump) := cok_of rfl (.cons ok_wide_Of (.cons ok_wide_Mul (.nil))) (.cons (fun _ => fn1_quiet) (.cons (fun _ => fn2_quiet) (.nil))) (.nil)
theorem ok_mix_Jump : Ok Tryz.prog 168 c_mix_Jump := by
  refine ok_fn2 cok_mix_Jump mixed Tryz.func168 rfl (by kernel_rfl) (by kernel_rfl) rfl ?_
  intro x n om hw _
  simp only [go_sem, Tryz.f168, kn1, kn2, kn3, kn4, kn5, kn6, kn7, kn8, kn9, kz1, kz2, kz3, kz4, kz5, kz6, kz7, kz8, kz9, kz0, reduceCtorEq, String.reduceEq, kn0, kq1, kq2, kq3, kq4, Int.toNat_natCast, mjump, tW_lit]
  repeat' (first | with_reducible refine And.intro ?_ ?_ | with_reducible intro _)
  all_goals first | omega | rfl | trivial
end Go.Proofs.YteomkgcepiecjaaGreat.I
/- xosh: Step, Right, Add; the references 07: Step, Jump; 08: Add. -/
namespace Go.Proofs.YteomkgcepiecjaaGreat.I
open Go
open Nat renaming reduceEqDiff → kn1, reduceBEq → kn2, reducePow → kn3, reduceMod → kn4, reduceAdd → kn5, reduceSub → kn6, reduceMul → kn7, reduceDiv → kn8, reduceLeDiff → kn9, reduceLT → kn0, zero_lt_one → kq1, zero_add → kq2, zero_le → kq3, le_refl → kq4
open Int renaming reduceToNat → kz1, reduceAdd → kz2, reduceSub → kz3, reduceMul → kz4, reduceDiv → kz5, reduceMod → kz6, reduceLE → kz7, reduceLT → kz8, reduceNeg → kz9, reduceEq → kz0
set_option maxRecDepth 10000
set_option linter.unusedSimpArgs false
set_option linter.unusedVariables false
structure X4 where
  a : Nat
  b : Nat
  c : Nat
  d : Nat
deriving DecidableEq
@[go_sem] theorem X4_eta (s : X4) : X4.mk s.a s.b s.c s.d = s := rfl
def vX (s : X4) : V := .agg [.n .u64 s.a, .n .u64 s.b, .n .u64 s.c, .n .u64 s.d]
@[go_sem] theorem vX_eq (s : X4) : vX s = .agg [.n .u64 s.a, .n .u64 s.b, .n .u64 s.c, .n .u64 s.d] := rfl
noncomputable def tX : Ty X4 := Ty.by vX fun s t h => by
  cases s; cases t
  simp only [vX_eq, V.agg.injEq, List.cons.injEq, V.n.injEq, true_and, and_true] at h
  simp [h]
@[go_sem] theorem tX_enc (s : X4) : tX.enc s = .agg [.n .u64 s.a, .n .u64 s.b, .n .u64 s.c, .n .u64 s.d] := rfl
@[go_sem] theorem tX_dec (a b c d : Nat) : tX.dec (.agg [.n .u64 a, .n .u64 b, .n .u64 c, .n .u64 d]) = some ⟨a, b, c, d⟩ := tX.h1 ⟨a, b, c, d⟩
def X4.wf (s : X4) : Prop := s.a < 18446744073709551616 ∧ s.b < 18446744073709551616 ∧ s.c < 18446744073709551616 ∧ s.d < 18446744073709551616
theorem wf_x {s : X4} {vs : List V} (h : wfs (.agg [.n .u64 s.a, .n .u64 s.b, .n .u64 s.c, .n .u64 s.d] :: vs)) : s.wf := ⟨h.1.1, h.1.2.1, h.1.2.2.1, h.1.2.2.2.1⟩
def rot (x : Nat) : Nat := (x <<< 45) % 18446744073709551616 ||| x >>> 19
def xstep (s : X4) : X4 := ⟨s.a ^^^ (s.d ^^^ s.b), s.b ^^^ (s.c ^^^ s.a), (s.c ^^^ s.a) ^^^ ((s.b <<< 17) % 18446744073709551616), rot (s.d ^^^ s.b)⟩
def xadd (s t : X4) : X4 := ⟨s.a ^^^ t.a, s.b ^^^ t.b, s.c ^^^ t.c, s.d ^^^ t.d⟩
def addK (s t : X4) : Nat → X4
  | 0 => s
  | 1 => ⟨s.a ^^^ t.a, s.b, s.c, s.d⟩
  | 2 => ⟨s.a ^^^ t.a, s.b ^^^ t.b, s.c, s.d⟩
  | 3 => ⟨s.a ^^^ t.a, s.b ^^^ t.b, s.c ^^^ t.c, s.d⟩
  | _ => ⟨s.a ^^^ t.a, s.b ^^^ t.b, s.c ^^^ t.c, s.d ^^^ t.d⟩
theorem rot_lt {x : Nat} (h : x < 18446744073709551616) : rot x < 18446744073709551616 := by
  unfold rot
  refine Nat.or_lt_two_pow (n := 64) (Nat.mod_lt _ (by omega)) ?_
  rw [Nat.shiftRight_eq_div_pow]
  exact Nat.lt_of_le_of_lt (Nat.div_le_self _ _) h
theorem xor_lt {x y : Nat} (h : x < 18446744073709551616) (g : y < 18446744073709551616) : x ^^^ y < 18446744073709551616 := Nat.xor_lt_two_pow (n := 64) h g
theorem X4.wf.d_xor_b {s : X4} (h : s.wf) : s.d ^^^ s.b < 18446744073709551616 := xor_lt h.2.2.2 h.2.1
theorem xstep_wf {s : X4} (h : s.wf) : (xstep s).wf := by
  obtain ⟨h1, h2, h3, h4⟩ := h
  exact ⟨xor_lt h1 (xor_lt h4 h2), xor_lt h2 (xor_lt h3 h1), xor_lt (xor_lt h3 h1) (Nat.mod_lt _ (by omega)), rot_lt (xor_lt h4 h2)⟩
def x0 : X4 := ⟨0, 0, 0, 0⟩
def rot7 (x : Nat) : Nat := (x <<< 7) % 18446744073709551616 ||| x >>> 57
def rotk (x : Nat) (k : Int) : Nat := if k = 45 then rot x else rot7 x
@[go_sem] theorem rotk_45 (x : Nat) : rotk x 45 = rot x := rfl
@[go_sem] theorem rotk_7 (x : Nat) : rotk x 7 = rot7 x := rfl
@[go_sem] def c_math_bits_RotateLeft64 : Cn := fn2 (tN .u64) tZ (fun _ k => k = 45 ∨ k = 7) fun x k => .n .u64 (rotk x k)
noncomputable def cx_math_bits_RotateLeft64 : Cx := { T := T, E := E, cs := [], sch := [], ob := [], qs := [] }
@[go_sem] theorem cx_math_bits_RotateLeft64_e : cx_math_bits_RotateLeft64.gs = none ∧ cx_math_bits_RotateLeft64.md = 0 ∧ cx_math_bits_RotateLeft64.T = T ∧ cx_math_bits_RotateLeft64.E = E ∧ cx_math_bits_RotateLeft64.cs = [] ∧ ∀ d, (cx_math_bits_RotateLeft64.ob).contains d = false := ⟨rfl, rfl, rfl, rfl, rfl, fun _ => rfl⟩
theorem cok_math_bits_RotateLeft64 : COk Tryz.prog (cx_math_bits_RotateLeft64) := cok_of rfl (.nil) (.nil) (.nil)
theorem ok_math_bits_RotateLeft64 : Ok Tryz.prog 187 c_math_bits_RotateLeft64 := by
  refine ok_fn2 cok_math_bits_RotateLeft64 mixed Tryz.func187 rfl (by kernel_rfl) (by kernel_rfl) rfl ?_
  intro x k om hw hk
  rcases hk with hk | hk
  all_goals
    subst hk
    simp only [go_sem, Tryz.f187, kn1, kn2, kn3, kn4, kn5, kn6, kn7, kn8, kn9, kz1, kz2, kz3, kz4, kz5, kz6, kz7, kz8, kz9, kz0, reduceCtorEq, String.reduceEq]
    rfl
@[go_sem] def c_ref07_Turned : Cn := fn2 (tN .u64) tZ (fun _ k => k = 45 ∨ k = 7) fun x k => .n .u64 (rotk x k)
noncomputable def cx_ref07_Turned : Cx := { T := T, E := E, cs := [], sch := [(1, false, .take 0 (.take 1 (.take 2 (.take 3 (.take 4 (.take 5 (.take 6 (.take 7 (.take 8 (.done))))))))))], ob := [], qs := [] }
@[go_sem] theorem cx_ref07_Turned_e : cx_ref07_Turned.gs = none ∧ cx_ref07_Turned.md = 0 ∧ cx_ref07_Turned.T = T ∧ cx_ref07_Turned.E = E ∧ cx_ref07_Turned.cs = [] ∧ cx_ref07_Turned.sch = [(1, false, .take 0 (.take 1 (.take 2 (.take 3 (.take 4 (.take 5 (.take 6 (.take 7 (.take 8 (.done))))))))))] ∧ ∀ d, (cx_ref07_Turned.ob).contains d = false := ⟨rfl, rfl, rfl, rfl, rfl, rfl, fun _ => rfl⟩
theorem cok_ref07_Turned : COk Tryz.prog (cx_ref07_Turned) := cok_of rfl (.nil) (.nil) (.nil)
theorem ok_ref07_Turned : Ok Tryz.prog 130 c_ref07_Turned := by
  refine ok_fn2 cok_ref07_Turned mixed Tryz.func130 rfl (by kernel_rfl) (by kernel_rfl) rfl ?_
  intro x k om hw hk
  rcases hk with hk | hk
  all_goals
    subst hk
    simp only [go_sem, Tryz.f130, kn1, kn2, kn3, kn4, kn5, kn6, kn7, kn8, kn9, kz1, kz2, kz3, kz4, kz5, kz6, kz7, kz8, kz9, kz0, reduceCtorEq, String.reduceEq]
    rfl
def xword (s : X4) : Nat := rot7 (s.b * 5 % 18446744073709551616) * 9 % 18446744073709551616
@[go_sem] noncomputable def c_xosh_Word : Cn := fn1 tX (fun _ => True) fun s => .n .u64 (xword s)
noncomputable def cx_xosh_Word : Cx := { T := T, E := E, cs := [(187, c_math_bits_RotateLeft64)], sch := [], ob := [], qs := [187] }
@[go_sem] theorem cx_xosh_Word_e : cx_xosh_Word.gs = none ∧ cx_xosh_Word.md = 0 ∧ cx_xosh_Word.T = T ∧ cx_xosh_Word.E = E ∧ cx_xosh_Word.cs = [(187, c_math_bits_RotateLeft64)] ∧ ∀ d, (cx_xosh_Word.ob).contains d = false := ⟨rfl, rfl, rfl, rfl, rfl, fun _ => rfl⟩
theorem cok_xosh_Word : COk Tryz.prog (cx_xosh_Word) := cok_of rfl (.cons ok_math_bits_RotateLeft64 (.nil)) (.cons (fun _ => fn2_quiet) (.nil)) (.nil)
theorem ok_xosh_Word : Ok Tryz.prog 184 c_xosh_Word := by
  refine ok_fn1 cok_xosh_Word mixed Tryz.func184 rfl (by kernel_rfl) (by kernel_rfl) rfl ?_
  intro s om hw _
  simp only [go_sem, Tryz.f184, kn1, kn2, kn3, kn4, kn5, kn6, kn7, kn8, kn9, kz1, kz2, kz3, kz4, kz5, kz6, kz7, kz8, kz9, kz0, reduceCtorEq, String.reduceEq, kn0, kq1, kq2, kq3, kq4, Int.toNat_natCast, xword]
  repeat' (first | with_reducible refine And.intro ?_ ?_ | with_reducible intro _)
  all_goals first | omega | rfl | trivial
@[go_sem] noncomputable def c_ref07_Word : Cn := fn1 tX (fun _ => True) fun s => .n .u64 (xword s)
noncomputable def cx_ref07_Word : Cx := { T := T, E := E, cs := [(130, c_ref07_Turned)], sch := [], ob := [], qs := [130] }
@[go_sem] theorem cx_ref07_Word_e : cx_ref07_Word.gs = none ∧ cx_ref07_Word.md = 0 ∧ cx_ref07_Word.T = T ∧ cx_ref07_Word.E = E ∧ cx_ref07_Word.cs = [(130, c_ref07_Turned)] ∧ ∀ d, (cx_ref07_Word.ob).contains d = false := ⟨rfl, rfl, rfl, rfl, rfl, fun _ => rfl⟩
theorem cok_ref07_Word : COk Tryz.prog (cx_ref07_Word) := cok_of rfl (.cons ok_ref07_Turned (.nil)) (.cons (fun _ => fn2_quiet) (.nil)) (.nil)
theorem ok_ref07_Word : Ok Tryz.prog 114 c_ref07_Word := by
  refine ok_fn1 cok_ref07_Word mixed Tryz.func114 rfl (by kernel_rfl) (by kernel_rfl) rfl ?_
  intro s om hw _
  simp only [go_sem, Tryz.f114, kn1, kn2, kn3, kn4, kn5, kn6, kn7, kn8, kn9, kz1, kz2, kz3, kz4, kz5, kz6, kz7, kz8, kz9, kz0, reduceCtorEq, String.reduceEq, kn0, kq1, kq2, kq3, kq4, Int.toNat_natCast, xword]
  repeat' (first | with_reducible refine And.intro ?_ ?_ | with_reducible intro _)
  all_goals first | omega | rfl | trivial
@[go_sem] noncomputable def c_xosh_Step : Cn := fn1 tX (fun _ => True) fun s => vX (xstep s)
noncomputable def cx_xosh_Step : Cx := { T := T, E := E, cs := [(187, c_math_bits_RotateLeft64)], sch := [], ob := [], qs := [187] }
@[go_sem] theorem cx_xosh_Step_e : cx_xosh_Step.gs = none ∧ cx_xosh_Step.md = 0 ∧ cx_xosh_Step.T = T ∧ cx_xosh_Step.E = E ∧ cx_xosh_Step.cs = [(187, c_math_bits_RotateLeft64)] ∧ ∀ d, (cx_xosh_Step.ob).contains d = false := ⟨rfl, rfl, rfl, rfl, rfl, fun _ => rfl⟩
theorem cok_xosh_Step : COk Tryz.prog (cx_xosh_Step) := cok_of rfl (.cons ok_math_bits_RotateLeft64 (.nil)) (.cons (fun _ => fn2_quiet) (.nil)) (.nil)
theorem ok_xosh_Step : Ok Tryz.prog 183 c_xosh_Step := by
  refine ok_fn1 cok_xosh_Step mixed Tryz.func183 rfl (by kernel_rfl) (by kernel_rfl) rfl ?_
  intro s om hw _
  simp only [go_sem, Tryz.f183, kn1, kn2, kn3, kn4, kn5, kn6, kn7, kn8, kn9, kz1, kz2, kz3, kz4, kz5, kz6, kz7, kz8, kz9, kz0, reduceCtorEq, String.reduceEq]
  have hr : rot (s.d ^^^ s.b) < 18446744073709551616 := rot_lt ((wf_x hw).d_xor_b)
  repeat' (first | with_reducible refine And.intro ?_ ?_ | with_reducible intro _)
  all_goals first | omega | rfl
@[go_sem] noncomputable def c_ref07_Step : Cn := fn1 tX (fun _ => True) fun s => vX (xstep s)
noncomputable def cx_ref07_Step : Cx := { T := T, E := E, cs := [(130, c_ref07_Turned)], sch := [], ob := [], qs := [130] }
@[go_sem] theorem cx_ref07_Step_e : cx_ref07_Step.gs = none ∧ cx_ref07_Step.md = 0 ∧ cx_ref07_Step.T = T ∧ cx_ref07_Step.E = E ∧ cx_ref07_Step.cs = [(130, c_ref07_Turned)] ∧ ∀ d, (cx_ref07_Step.ob).contains d = false := ⟨rfl, rfl, rfl, rfl, rfl, fun _ => rfl⟩
theorem cok_ref07_Step : COk Tryz.prog (cx_ref07_Step) := cok_of rfl (.cons ok_ref07_Turned (.nil)) (.cons (fun _ => fn2_quiet) (.nil)) (.nil)
theorem ok_ref07_Step : Ok Tryz.prog 111 c_ref07_Step := by
  refine ok_fn1 cok_ref07_Step mixed Tryz.func111 rfl (by kernel_rfl) (by kernel_rfl) rfl ?_
  intro s om hw _
  simp only [go_sem, Tryz.f111, kn1, kn2, kn3, kn4, kn5, kn6, kn7, kn8, kn9, kz1, kz2, kz3, kz4, kz5, kz6, kz7, kz8, kz9, kz0, reduceCtorEq, String.reduceEq]
  have hr : rot (s.d ^^^ s.b) < 18446744073709551616 := rot_lt ((wf_x hw).d_xor_b)
  repeat' (first | with_reducible refine And.intro ?_ ?_ | with_reducible intro _)
  all_goals first | omega | rfl
@[go_sem] noncomputable def c_xosh_Right : Cn := fn1 tX (fun _ => True) fun s => .b (decide (s ≠ x0))
noncomputable def cx_xosh_Right : Cx := { T := T, E := E, cs := [], sch := [], ob := [], qs := [] }
@[go_sem] theorem cx_xosh_Right_e : cx_xosh_Right.gs = none ∧ cx_xosh_Right.md = 0 ∧ cx_xosh_Right.T = T ∧ cx_xosh_Right.E = E ∧ cx_xosh_Right.cs = [] ∧ ∀ d, (cx_xosh_Right.ob).contains d = false := ⟨rfl, rfl, rfl, rfl, rfl, fun _ => rfl⟩
theorem cok_xosh_Right : COk Tryz.prog (cx_xosh_Right) := cok_of rfl (.nil) (.nil) (.nil)
theorem ok_xosh_Right : Ok Tryz.prog 182 c_xosh_Right := by
  refine ok_fn1 cok_xosh_Right mixed Tryz.func182 rfl (by kernel_rfl) (by kernel_rfl) rfl ?_
  intro s om hw _
  simp only [go_sem, Tryz.f182, kn1, kn2, kn3, kn4, kn5, kn6, kn7, kn8, kn9, kz1, kz2, kz3, kz4, kz5, kz6, kz7, kz8, kz9, kz0, reduceCtorEq, String.reduceEq]
  refine ⟨by omega, ?_⟩
  have : (s.a = 0 ∧ s.b = 0 ∧ s.c = 0 ∧ s.d = 0) ↔ s = x0 := by
    cases s; simp [x0]
  by_cases h : s = x0
  · rw [decide_eq_true (this.2 h)]; simp [h]
  · rw [decide_eq_false (fun e => h (this.1 e))]; simp [h]
@[go_sem] noncomputable def c_xosh_Add : Cn := fn2 tX tX (fun _ _ => True) fun s t => vX (xadd s t)
noncomputable def cx_xosh_Add : Cx := { T := T, E := E, cs := [], sch := [], ob := [], qs := [] }
@[go_sem] theorem cx_xosh_Add_e : cx_xosh_Add.gs = none ∧ cx_xosh_Add.md = 0 ∧ cx_xosh_Add.T = T ∧ cx_xosh_Add.E = E ∧ cx_xosh_Add.cs = [] ∧ ∀ d, (cx_xosh_Add.ob).contains d = false := ⟨rfl, rfl, rfl, rfl, rfl, fun _ => rfl⟩
theorem cok_xosh_Add : COk Tryz.prog (cx_xosh_Add) := cok_of rfl (.nil) (.nil) (.nil)
theorem ok_xosh_Add : Ok Tryz.prog 190 c_xosh_Add := by
  refine ok_fn2 cok_xosh_Add mixed Tryz.func190 rfl (by kernel_rfl) (by kernel_rfl) rfl ?_
  intro s t om hw _
  simp only [go_sem, Tryz.f190, kn1, kn2, kn3, kn4, kn5, kn6, kn7, kn8, kn9, kz1, kz2, kz3, kz4, kz5, kz6, kz7, kz8, kz9, kz0, reduceCtorEq, String.reduceEq]
  refine ⟨by omega, ?_⟩
  refine ⟨Nat, fun k => ⟨[.u, .u, .ref 2 1 4 0 0, .u, .ref 4 1 4 0 0, .u, .u, vX t, .z k, .u, .u, .u, .u, .u, .u, .u, .u, .u, .u, .u], [(4, ⟨4, true, [vX x0], false⟩), (2, ⟨4, true, [vX (addK s t k)], false⟩)], om⟩, fun k => k ≤ 4, fun k => 4 - k, ⟨0, by omega, ?_⟩, ?_⟩
  · simp only [go_sem, kn1, kn2, kn3, kn4, kn5, kn6, kn7, kn8, kn9, kz1, kz2, kz3, kz4, kz5, kz6, kz7, kz8, kz9, kz0, reduceCtorEq, String.reduceEq, addK, x0]
  · intro k hk
    have : k = 0 ∨ k = 1 ∨ k = 2 ∨ k = 3 ∨ k = 4 := by omega
    rcases this with rfl | rfl | rfl | rfl | rfl
    all_goals simp only [go_sem, kn1, kn2, kn3, kn4, kn5, kn6, kn7, kn8, kn9, kz1, kz2, kz3, kz4, kz5, kz6, kz7, kz8, kz9, kz0, reduceCtorEq, String.reduceEq, addK]
    · exact ⟨by omega, by omega, 1, by omega, ⟨rfl, rfl, rfl, rfl, rfl⟩, by omega⟩
    · exact ⟨by omega, by omega, 2, by omega, ⟨rfl, rfl, rfl, rfl, rfl⟩, by omega⟩
    · exact ⟨by omega, by omega, 3, by omega, ⟨rfl, rfl, rfl, rfl, rfl⟩, by omega⟩
    · exact ⟨by omega, by omega, 4, by omega, ⟨rfl, rfl, rfl, rfl, rfl⟩, by omega⟩
    · exact ⟨by omega, by omega, by omega, rfl, rfl, rfl, rfl⟩
end Go.Proofs.YteomkgcepiecjaaGreat.I
