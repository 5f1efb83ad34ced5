/- Texts of the ideal machine, or of plain numbers, one behind the other: Wide1, Wide2, Wide3, Aff, Mix, Xosh1. -/
import Derived.Test.YtlcnohmnemmbdaaG3
import Derived.Test.YtlcnohmnemmbdaaM3
import Derived.Shelf.Spec.BitsCarry
/- wide: Len, Right, Bit. -/
namespace Go.Proofs.Ytlcnohmnemmbdaa.I
open Go
open Nat renaming reduceEqDiff → kn1, reduceBEq → kn2, reducePow → kn3, reduceMod → kn4, reduceAdd → kn5, reduceSub → kn6, reduceMul → kn7, reduceDiv → kn8, reduceLeDiff → kn9, reduceLT → kn0, zero_lt_one → kq1, zero_add → kq2, zero_le → kq3, le_refl → kq4
open Int renaming reduceToNat → kz1, reduceAdd → kz2, reduceSub → kz3, reduceMul → kz4, reduceDiv → kz5, reduceMod → kz6, reduceLE → kz7, reduceLT → kz8, reduceNeg → kz9, reduceEq → kz0
set_option maxRecDepth 10000
set_option linter.unusedSimpArgs false
set_option linter.unusedVariables false

/-- A number of 128 bits. -/
def vW (n : Nat) : V := .agg [.n .u64 (n / 18446744073709551616), .n .u64 (n % 18446744073709551616)]
@[go_sem] theorem vW_eq (n : Nat) : vW n = .agg [.n .u64 (n / 18446744073709551616), .n .u64 (n % 18446744073709551616)] := rfl
noncomputable def tW : Ty Nat := Ty.by vW fun a b h => by
  simp only [vW_eq, V.agg.injEq, List.cons.injEq, V.n.injEq, true_and, and_true] at h
  omega
@[go_sem] theorem tW_enc (n : Nat) : tW.enc n = .agg [.n .u64 (n / 18446744073709551616), .n .u64 (n % 18446744073709551616)] := rfl
@[go_sem] theorem tW_dec (n : Nat) : tW.dec (.agg [.n .u64 (n / 18446744073709551616), .n .u64 (n % 18446744073709551616)]) = some n := tW.h1 n
theorem tW_pair {h l : Nat} (hl : l < 18446744073709551616) : tW.dec (.agg [.n .u64 h, .n .u64 l]) = some (h * 18446744073709551616 + l) := by
  have := tW.h1 (h * 18446744073709551616 + l)
  rw [tW_enc, show (h * 18446744073709551616 + l) / 18446744073709551616 = h by omega, show (h * 18446744073709551616 + l) % 18446744073709551616 = l by omega] at this
  exact this
theorem wf_w {n : Nat} {vs : List V} (h : wfs (.agg [.n .u64 (n / 18446744073709551616), .n .u64 (n % 18446744073709551616)] :: vs)) : n < 340282366920938463463374607431768211456 := by
  have : n / 18446744073709551616 < 18446744073709551616 := h.1.1
  omega

theorem bl_split (n : Nat) : bl n = if n / 18446744073709551616 = 0 then bl (n % 18446744073709551616) else 64 + bl (n / 18446744073709551616) := by
  split
  · rename_i h; rw [Nat.mod_eq_of_lt (by omega)]
  · rename_i h
    have e : n / 18446744073709551616 = n >>> 64 := by rw [Nat.shiftRight_eq_div_pow]
    rw [e]
    exact bl_shr (by omega)

@[go_sem] noncomputable def c_wide_Len : Cn := fn1 tW (fun _ => True) fun x => .z (bl x)
noncomputable def cx_wide_Len : Cx := { T := T, E := E, cs := [(48, c_math_bits_Len64)], sch := [], ob := [], qs := [48] }
@[go_sem] theorem cx_wide_Len_e : cx_wide_Len.gs = none ∧ cx_wide_Len.md = 0 ∧ cx_wide_Len.T = T ∧ cx_wide_Len.E = E ∧ cx_wide_Len.cs = [(48, c_math_bits_Len64)] ∧ ∀ d, (cx_wide_Len.ob).contains d = false := ⟨rfl, rfl, rfl, rfl, rfl, fun _ => rfl⟩
theorem cok_wide_Len : COk Try.prog (cx_wide_Len) := cok_of rfl (.cons ok_math_bits_Len64 (.nil)) (.cons (fun _ => fn1_quiet) (.nil)) (.nil)
theorem ok_wide_Len : Ok Try.prog 34 c_wide_Len := by
  refine ok_fn1 cok_wide_Len mixed Try.func34 rfl (by kernel_rfl) (by kernel_rfl) rfl ?_
  intro x om hw _
  have hx := wf_w hw
  have hb := bl_split x
  have h1 : bl (x / 18446744073709551616) ≤ 64 := bl_lt.2 (by omega)
  simp only [go_sem, Try.f34, kn1, kn2, kn3, kn4, kn5, kn6, kn7, kn8, kn9, kz1, kz2, kz3, kz4, kz5, kz6, kz7, kz8, kz9, kz0, reduceCtorEq, String.reduceEq]
  exact ⟨by omega, fun h => ⟨by omega, fun _ => ⟨by omega, by rw [hb, if_neg (by omega)]; omega⟩⟩, fun h => ⟨by omega, fun _ => by rw [hb, if_pos (by omega)]⟩⟩

theorem shr_div (x k : Nat) : x >>> k = x / 2 ^ k := Nat.shiftRight_eq_div_pow x k
theorem right_lo {x k : Nat} (h0 : 0 < k) (h : k < 64) : (x % 18446744073709551616) >>> k ||| ((x / 18446744073709551616) <<< (64 - k)) % 18446744073709551616 = (x >>> k) % 18446744073709551616 := by
  apply Nat.eq_of_testBit_eq
  intro i
  have e : (18446744073709551616 : Nat) = 2 ^ 64 := rfl
  rw [e, Nat.testBit_or, Nat.testBit_shiftRight, Nat.testBit_mod_two_pow, Nat.testBit_mod_two_pow, Nat.testBit_mod_two_pow, Nat.testBit_shiftLeft, Nat.testBit_shiftRight, Nat.testBit_div_two_pow]
  by_cases h1 : k + i < 64
  · have h2 : i < 64 := by omega
    have h3 : ¬ 64 - k ≤ i := by omega
    simp [h1, h2, h3]
  · by_cases h2 : i < 64
    · have h3 : 64 - k ≤ i := by omega
      have h4 : i - (64 - k) + 64 = k + i := by omega
      have h5 : 64 + (i - (64 - k)) = k + i := by omega
      simp [h1, h2, h3, h4, h5]
    · simp [h1, h2]
theorem right_hi (x k : Nat) : (x / 18446744073709551616) >>> k = (x >>> k) / 18446744073709551616 := by
  rw [shr_div, shr_div, Nat.div_div_eq_div_mul, Nat.div_div_eq_div_mul, Nat.mul_comm]

@[go_sem] noncomputable def c_wide_Right : Cn := fn2 tW tZ (fun _ _ => True) fun x i => vW (x >>> i.toNat)
noncomputable def cx_wide_Right : Cx := { T := T, E := E, cs := [], sch := [(5, false, .take 0 (.take 1 (.take 2 (.take 3 (.take 4 (.take 5 (.take 6 (.take 7 (.take 8 (.take 9 (.take 10 (.take 11 (.take 12 (.take 13 (.take 14 (.alt 15 (.done) .no))))))))))))))))], ob := [], qs := [] }
@[go_sem] theorem cx_wide_Right_e : cx_wide_Right.gs = none ∧ cx_wide_Right.md = 0 ∧ cx_wide_Right.T = T ∧ cx_wide_Right.E = E ∧ cx_wide_Right.cs = [] ∧ cx_wide_Right.sch = [(5, false, .take 0 (.take 1 (.take 2 (.take 3 (.take 4 (.take 5 (.take 6 (.take 7 (.take 8 (.take 9 (.take 10 (.take 11 (.take 12 (.take 13 (.take 14 (.alt 15 (.done) .no))))))))))))))))] ∧ ∀ d, (cx_wide_Right.ob).contains d = false := ⟨rfl, rfl, rfl, rfl, rfl, rfl, fun _ => rfl⟩
theorem cok_wide_Right : COk Try.prog (cx_wide_Right) := cok_of rfl (.nil) (.nil) (.nil)
theorem ok_wide_Right : Ok Try.prog 35 c_wide_Right := by
  refine ok_fn2 cok_wide_Right mixed Try.func35 rfl (by kernel_rfl) (by kernel_rfl) rfl ?_
  intro x i om hw _
  have hx := wf_w hw
  simp only [go_sem, Try.f35, kn1, kn2, kn3, kn4, kn5, kn6, kn7, kn8, kn9, kz1, kz2, kz3, kz4, kz5, kz6, kz7, kz8, kz9, kz0, reduceCtorEq, String.reduceEq]
  have e : (18446744073709551616 : Nat) = 2 ^ 64 := rfl
  refine ⟨fun h => ?_, fun h => ⟨fun h1 => ?_, fun h1 => ?_⟩⟩
  · rw [show i.toNat = 0 by omega, Nat.shiftRight_zero]
    exact ⟨by omega, by omega, by omega, rfl, rfl⟩
  · have hs : x >>> i.toNat < 18446744073709551616 := by
      rw [shr_div]
      refine Nat.div_lt_of_lt_mul ?_
      have : 2 ^ 64 ≤ 2 ^ i.toNat := Nat.pow_le_pow_right (by omega) (by omega)
      calc x < 2 ^ 64 * 18446744073709551616 := by omega
        _ ≤ _ := Nat.mul_le_mul_right _ this
    refine ⟨by omega, by omega, by omega, by omega, by omega, ?_, ?_⟩
    · rw [Nat.div_eq_of_lt hs]
    · rw [Nat.mod_eq_of_lt hs]
      by_cases h2 : i ≤ 128
      · rw [e, ← Nat.shiftRight_eq_div_pow, ← Nat.shiftRight_add]
        congr 1; omega
      · rw [shr_div, shr_div, Nat.div_eq_of_lt, Nat.div_eq_of_lt]
        · have : 2 ^ 128 ≤ 2 ^ i.toNat := Nat.pow_le_pow_right (by omega) (by omega)
          omega
        · rw [show (min i 128 - 64).toNat = 64 by omega]; omega
  · have hi : (64 - i).toNat = 64 - i.toNat := by omega
    rw [hi]
    exact ⟨by omega, by omega, by omega, by omega, by omega, by omega, by omega, by omega, by omega, right_hi _ _, right_lo (by omega) (by omega)⟩

@[go_sem] noncomputable def c_wide_Bit : Cn := fn2 tW tZ (fun _ _ => True) fun x i => .z (tb x i)
end Go.Proofs.Ytlcnohmnemmbdaa.I
/- wide: Add64, Sub64, Mul64; Of, Full, Add, Sub, Left. -/
namespace Go.Proofs.Ytlcnohmnemmbdaa.I
open Go
open Nat renaming reduceEqDiff → kn1, reduceBEq → kn2, reducePow → kn3, reduceMod → kn4, reduceAdd → kn5, reduceSub → kn6, reduceMul → kn7, reduceDiv → kn8, reduceLeDiff → kn9, reduceLT → kn0, zero_lt_one → kq1, zero_add → kq2, zero_le → kq3, le_refl → kq4
open Int renaming reduceToNat → kz1, reduceAdd → kz2, reduceSub → kz3, reduceMul → kz4, reduceDiv → kz5, reduceMod → kz6, reduceLE → kz7, reduceLT → kz8, reduceNeg → kz9, reduceEq → kz0
set_option maxRecDepth 10000
set_option linter.unusedSimpArgs false
set_option linter.unusedVariables false

theorem rep_pair {X : Lay} {a b : Nat} (ha : a < 18446744073709551616) (hb : b < 18446744073709551616) : Rep X (.tuple #[.int .u64 (a : Int), .int .u64 (b : Int)]) (.tup [.n .u64 a, .n .u64 b]) := by
  refine .tup _ _ rfl fun k h h' => ?_
  match k, h with
  | 0, _ => exact .n _ _ rfl ha
  | 1, _ => exact .n _ _ rfl hb

theorem rep_u64 {X : Lay} {v : Value} {x : Nat} (h : Rep X v (.n .u64 x)) : v = .int .u64 (x : Int) ∧ x < 18446744073709551616 := by
  cases h with | n _ _ _ h => exact ⟨rfl, h⟩
@[go_sem] noncomputable def c_math_bits_Add64 : Cn := fn3 (tN .u64) (tN .u64) (tN .u64) (fun _ _ c => c ≤ 1) fun x y c => .tup [.n .u64 ((x + y + c) % 18446744073709551616), .n .u64 ((x + y + c) / 18446744073709551616)]
def bor64 (x y b : Nat) : Nat := if x < y + b then 1 else 0
@[go_sem] noncomputable def c_math_bits_Sub64 : Cn := fn3 (tN .u64) (tN .u64) (tN .u64) (fun _ _ c => c ≤ 1) fun x y c => .tup [.n .u64 ((x + 18446744073709551616 - y - c) % 18446744073709551616), .n .u64 (bor64 x y c)]
theorem three_u64 {X : Lay} {vs : List Value} {args : List V} {om : Om} {Q : V → Om → Prop} {pre : Nat → Nat → Nat → Prop} {g : Nat → Nat → Nat → V} (hr : RepL X vs args) (hc : @fn3 _ _ _ (tN .u64) (tN .u64) (tN .u64) pre g args om ⟨Q⟩) :
    ∃ x y z : Nat, vs.toArray = #[.int .u64 (x : Int), .int .u64 (y : Int), .int .u64 (z : Int)] ∧ x < 18446744073709551616 ∧ y < 18446744073709551616 ∧ pre x y z ∧ Q (g x y z) om := by
  unfold fn3 at hc
  split at hc <;> first | exact hc.elim | skip
  rename_i a b c
  obtain ⟨x, hx, hc⟩ := so_inv hc
  obtain ⟨y, hy, hc⟩ := so_inv hc
  obtain ⟨z, hz, h1, h2⟩ := so_inv hc
  obtain rfl := (tN .u64).h2 _ _ hx
  obtain rfl := (tN .u64).h2 _ _ hy
  obtain rfl := (tN .u64).h2 _ _ hz
  cases hr with | cons r1 hr =>
  cases hr with | cons r2 hr =>
  cases hr with | cons r3 hr =>
  cases hr
  obtain ⟨rfl, l1⟩ := rep_u64 r1
  obtain ⟨rfl, l2⟩ := rep_u64 r2
  obtain ⟨rfl, l3⟩ := rep_u64 r3
  exact ⟨x, y, z, rfl, l1, l2, h1, h2⟩
theorem okX_math_bits_Add64 : OkX Try.prog 47 c_math_bits_Add64 where
  mono := fn3_mono
  gives := fun X om args vs Q G hr hcl hc => by
    obtain ⟨x, y, z, e, l1, l2, h1, h2⟩ := three_u64 hr hc
    refine ⟨_, _, ?_, rep_pair ?_ ?_, h2⟩
    · rw [e, run_callFunc_extern Try.func47 (by kernel_rfl) (by kernel_rfl) (by kernel_rfl) (e := add64Entry) (by kernel_rfl), run_add64 x y z (by omega) (by omega) (by omega) (by omega)]
      rfl
    · omega
    · omega
theorem okX_math_bits_Sub64 : OkX Try.prog 45 c_math_bits_Sub64 where
  mono := fn3_mono
  gives := fun X om args vs Q G hr hcl hc => by
    obtain ⟨x, y, z, e, l1, l2, h1, h2⟩ := three_u64 hr hc
    refine ⟨_, _, ?_, rep_pair ?_ ?_, h2⟩
    · rw [e, run_callFunc_extern Try.func45 (by kernel_rfl) (by kernel_rfl) (by kernel_rfl) (e := Proofs.sub64Entry) (by kernel_rfl), Proofs.run_sub64 x y z h1]
      rfl
    · omega
    · unfold bor64; split <;> omega

@[go_sem] noncomputable def c_wide_Of : Cn := fn1 (tN .u64) (fun _ => True) vW
noncomputable def cx_wide_Of : Cx := { T := T, E := E, cs := [], sch := [], ob := [], qs := [] }
@[go_sem] theorem cx_wide_Of_e : cx_wide_Of.gs = none ∧ cx_wide_Of.md = 0 ∧ cx_wide_Of.T = T ∧ cx_wide_Of.E = E ∧ cx_wide_Of.cs = [] ∧ ∀ d, (cx_wide_Of.ob).contains d = false := ⟨rfl, rfl, rfl, rfl, rfl, fun _ => rfl⟩
theorem cok_wide_Of : COk Try.prog (cx_wide_Of) := cok_of rfl (.nil) (.nil) (.nil)
theorem ok_wide_Of : Ok Try.prog 31 c_wide_Of := by
  refine ok_fn1 cok_wide_Of mixed Try.func31 rfl (by kernel_rfl) (by kernel_rfl) rfl ?_
  intro x om hw _
  have hx : x < 18446744073709551616 := by have := hw.1; simpa [tN, V.wf, IntKind.bits] using this
  simp only [go_sem, Try.f31, kn1, kn2, kn3, kn4, kn5, kn6, kn7, kn8, kn9, kz1, kz2, kz3, kz4, kz5, kz6, kz7, kz8, kz9, kz0, reduceCtorEq, String.reduceEq]
  exact ⟨by omega, by omega, by omega, by omega⟩

theorem mul_hi (x y : Nat) (hx : x < 18446744073709551616) (hy : y < 18446744073709551616) : x * y / 18446744073709551616 =
    (x / 4294967296 * (y / 4294967296) + (x / 4294967296 * (y % 4294967296) + x % 4294967296 * (y % 4294967296) / 4294967296) / 4294967296 + ((x / 4294967296 * (y % 4294967296) + x % 4294967296 * (y % 4294967296) / 4294967296) % 4294967296 + x % 4294967296 * (y / 4294967296)) / 4294967296) := by
  obtain ⟨a, ha⟩ : ∃ a, x / 4294967296 = a := ⟨_, rfl⟩
  obtain ⟨b, hb⟩ : ∃ b, x % 4294967296 = b := ⟨_, rfl⟩
  obtain ⟨c, hc⟩ : ∃ c, y / 4294967296 = c := ⟨_, rfl⟩
  obtain ⟨d, hd⟩ : ∃ d, y % 4294967296 = d := ⟨_, rfl⟩
  have ex : x = a * 4294967296 + b := by omega
  have ey : y = c * 4294967296 + d := by omega
  rw [ha, hb, hc, hd]
  have e : x * y = a * c * 18446744073709551616 + (a * d + b * c) * 4294967296 + b * d := by
    rw [ex, ey, Nat.add_mul, Nat.mul_add, Nat.mul_add]
    have e1 : a * 4294967296 * (c * 4294967296) = a * c * 18446744073709551616 := by
      rw [Nat.mul_mul_mul_comm]
    have e2 : a * 4294967296 * d = a * d * 4294967296 := by rw [Nat.mul_right_comm]
    have e3 : b * (c * 4294967296) = b * c * 4294967296 := by rw [Nat.mul_assoc]
    rw [e1, e2, e3, Nat.add_mul]; omega
  rw [e]
  generalize a * c = p; generalize a * d = q; generalize b * c = r; generalize b * d = s
  omega
@[go_sem] noncomputable def c_math_bits_Mul64 : Cn := fn2 (tN .u64) (tN .u64) (fun _ _ => True) fun x y => .tup [.n .u64 (x * y / 18446744073709551616), .n .u64 (x * y % 18446744073709551616)]
@[go_sem] noncomputable def c_wide_Full : Cn := fn2 (tN .u64) (tN .u64) (fun _ _ => True) fun x y => vW (x * y)
@[go_sem] noncomputable def c_wide_Add : Cn := fn2 tW tW (fun _ _ => True) fun x y => .tup [vW ((x + y) % 340282366920938463463374607431768211456), .b (decide (340282366920938463463374607431768211456 ≤ x + y))]
noncomputable def cx_wide_Add : Cx := { T := T, E := E, cs := [(47, c_math_bits_Add64)], sch := [], ob := [], qs := [47] }
@[go_sem] theorem cx_wide_Add_e : cx_wide_Add.gs = none ∧ cx_wide_Add.md = 0 ∧ cx_wide_Add.T = T ∧ cx_wide_Add.E = E ∧ cx_wide_Add.cs = [(47, c_math_bits_Add64)] ∧ ∀ d, (cx_wide_Add.ob).contains d = false := ⟨rfl, rfl, rfl, rfl, rfl, fun _ => rfl⟩
theorem cok_wide_Add : COk Try.prog (cx_wide_Add) := cok_of rfl (.consX okX_math_bits_Add64 (.nil)) (.cons (fun _ => fn3_quiet) (.nil)) (.nil)
theorem ok_wide_Add : Ok Try.prog 32 c_wide_Add := by
  refine ok_fn2 cok_wide_Add mixed Try.func32 rfl (by kernel_rfl) (by kernel_rfl) rfl ?_
  intro x y om hw _
  have hx := wf_w hw
  have hy := wf_w hw.2
  simp only [go_sem, Try.f32, kn1, kn2, kn3, kn4, kn5, kn6, kn7, kn8, kn9, kz1, kz2, kz3, kz4, kz5, kz6, kz7, kz8, kz9, kz0, reduceCtorEq, String.reduceEq]
  refine ⟨by omega, by omega, fun _ => ⟨by omega, by omega, by omega, fun _ => ⟨by omega, by omega, ⟨by omega, by omega⟩, ?_⟩⟩⟩
  exact decide_eq_decide.2 ⟨fun h => by omega, fun h => by omega⟩

@[go_sem] noncomputable def c_wide_Sub : Cn := fn2 tW tW (fun _ _ => True) fun x y => .tup [vW ((x + 340282366920938463463374607431768211456 - y) % 340282366920938463463374607431768211456), .b (decide (x < y))]
noncomputable def cx_wide_Sub : Cx := { T := T, E := E, cs := [(45, c_math_bits_Sub64)], sch := [], ob := [], qs := [45] }
@[go_sem] theorem cx_wide_Sub_e : cx_wide_Sub.gs = none ∧ cx_wide_Sub.md = 0 ∧ cx_wide_Sub.T = T ∧ cx_wide_Sub.E = E ∧ cx_wide_Sub.cs = [(45, c_math_bits_Sub64)] ∧ ∀ d, (cx_wide_Sub.ob).contains d = false := ⟨rfl, rfl, rfl, rfl, rfl, fun _ => rfl⟩
theorem cok_wide_Sub : COk Try.prog (cx_wide_Sub) := cok_of rfl (.consX okX_math_bits_Sub64 (.nil)) (.cons (fun _ => fn3_quiet) (.nil)) (.nil)
theorem ok_wide_Sub : Ok Try.prog 29 c_wide_Sub := by
  refine ok_fn2 cok_wide_Sub mixed Try.func29 rfl (by kernel_rfl) (by kernel_rfl) rfl ?_
  intro x y om hw _
  have hx := wf_w hw
  have hy := wf_w hw.2
  simp only [go_sem, Try.f29, kn1, kn2, kn3, kn4, kn5, kn6, kn7, kn8, kn9, kz1, kz2, kz3, kz4, kz5, kz6, kz7, kz8, kz9, kz0, reduceCtorEq, String.reduceEq]
  obtain ⟨b, hb⟩ : ∃ b, bor64 (x % 18446744073709551616) (y % 18446744073709551616) 0 = b := ⟨_, rfl⟩
  obtain ⟨c, hc⟩ : ∃ c, bor64 (x / 18446744073709551616) (y / 18446744073709551616) b = c := ⟨_, rfl⟩
  rw [hb, hc]
  unfold bor64 at hb hc
  have hb' : (x % 18446744073709551616 < y % 18446744073709551616 ∧ b = 1) ∨ (¬ x % 18446744073709551616 < y % 18446744073709551616 ∧ b = 0) := by
    split at hb <;> omega
  have hc' : (x / 18446744073709551616 < y / 18446744073709551616 + b ∧ c = 1) ∨ (¬ x / 18446744073709551616 < y / 18446744073709551616 + b ∧ c = 0) := by
    split at hc <;> omega
  clear hb hc
  refine ⟨by omega, by omega, fun _ => ⟨by omega, by omega, by omega, fun _ => ⟨by omega, by omega, ⟨?_, ?_⟩, ?_⟩⟩⟩
  · omega
  · omega
  · exact decide_eq_decide.2 ⟨fun h => by omega, fun h => by omega⟩

@[go_sem] noncomputable def c_wide_Left : Cn := fn2 tW tZ (fun _ _ => True) fun x i => vW ((x <<< i.toNat) % 340282366920938463463374607431768211456)
end Go.Proofs.Ytlcnohmnemmbdaa.I
/- wide: Compare, Cmp, Mul, Put. -/
namespace Go.Proofs.Ytlcnohmnemmbdaa.I
open Go
open Nat renaming reduceEqDiff → kn1, reduceBEq → kn2, reducePow → kn3, reduceMod → kn4, reduceAdd → kn5, reduceSub → kn6, reduceMul → kn7, reduceDiv → kn8, reduceLeDiff → kn9, reduceLT → kn0, zero_lt_one → kq1, zero_add → kq2, zero_le → kq3, le_refl → kq4
open Int renaming reduceToNat → kz1, reduceAdd → kz2, reduceSub → kz3, reduceMul → kz4, reduceDiv → kz5, reduceMod → kz6, reduceLE → kz7, reduceLT → kz8, reduceNeg → kz9, reduceEq → kz0
set_option maxRecDepth 10000
set_option linter.unusedSimpArgs false
set_option linter.unusedVariables false

theorem tW_lit {l : Nat} (h : l < 18446744073709551616) : tW.dec (.agg [.n .u64 0, .n .u64 l]) = some l := by
  have := tW_pair (h := 0) h
  rwa [Nat.zero_mul, Nat.zero_add] at this

def cmpN (x y : Nat) : Int := if x < y then -1 else if y < x then 1 else 0

@[go_sem] def c_cmp_isNaN_uint64 : Cn := fn1 (tN .u64) (fun _ => True) fun _ => .b false
noncomputable def cx_cmp_isNaN_uint64 : Cx := { T := T, E := E, cs := [], sch := [], ob := [], qs := [] }
@[go_sem] theorem cx_cmp_isNaN_uint64_e : cx_cmp_isNaN_uint64.gs = none ∧ cx_cmp_isNaN_uint64.md = 0 ∧ cx_cmp_isNaN_uint64.T = T ∧ cx_cmp_isNaN_uint64.E = E ∧ cx_cmp_isNaN_uint64.cs = [] ∧ ∀ d, (cx_cmp_isNaN_uint64.ob).contains d = false := ⟨rfl, rfl, rfl, rfl, rfl, fun _ => rfl⟩
theorem cok_cmp_isNaN_uint64 : COk Try.prog (cx_cmp_isNaN_uint64) := cok_of rfl (.nil) (.nil) (.nil)
theorem ok_cmp_isNaN_uint64 : Ok Try.prog 59 c_cmp_isNaN_uint64 := by
  refine ok_fn1 cok_cmp_isNaN_uint64 mixed Try.func59 rfl (by kernel_rfl) (by kernel_rfl) rfl ?_
  intro x om hw _
  simp only [go_sem, Try.f59, kn1, kn2, kn3, kn4, kn5, kn6, kn7, kn8, kn9, kz1, kz2, kz3, kz4, kz5, kz6, kz7, kz8, kz9, kz0, reduceCtorEq, String.reduceEq, kn0, kq1, kq2, kq3, kq4, Int.toNat_natCast]

@[go_sem] def c_cmp_Compare_uint64 : Cn := fn2 (tN .u64) (tN .u64) (fun _ _ => True) fun x y => .z (cmpN x y)
noncomputable def cx_cmp_Compare_uint64 : Cx := { T := T, E := E, cs := [(59, c_cmp_isNaN_uint64)], sch := [], ob := [], qs := [59] }
@[go_sem] theorem cx_cmp_Compare_uint64_e : cx_cmp_Compare_uint64.gs = none ∧ cx_cmp_Compare_uint64.md = 0 ∧ cx_cmp_Compare_uint64.T = T ∧ cx_cmp_Compare_uint64.E = E ∧ cx_cmp_Compare_uint64.cs = [(59, c_cmp_isNaN_uint64)] ∧ ∀ d, (cx_cmp_Compare_uint64.ob).contains d = false := ⟨rfl, rfl, rfl, rfl, rfl, fun _ => rfl⟩
theorem cok_cmp_Compare_uint64 : COk Try.prog (cx_cmp_Compare_uint64) := cok_of rfl (.cons ok_cmp_isNaN_uint64 (.nil)) (.cons (fun _ => fn1_quiet) (.nil)) (.nil)
theorem ok_cmp_Compare_uint64 : Ok Try.prog 46 c_cmp_Compare_uint64 := by
  refine ok_fn2 cok_cmp_Compare_uint64 mixed Try.func46 rfl (by kernel_rfl) (by kernel_rfl) rfl ?_
  intro x y om hw _
  simp only [go_sem, Try.f46, kn1, kn2, kn3, kn4, kn5, kn6, kn7, kn8, kn9, kz1, kz2, kz3, kz4, kz5, kz6, kz7, kz8, kz9, kz0, reduceCtorEq, String.reduceEq, kn0, kq1, kq2, kq3, kq4, Int.toNat_natCast]
  unfold cmpN
  refine ⟨fun h => by rw [if_pos h], fun h => ⟨fun h1 => by rw [if_neg h, if_pos h1], fun h1 => by rw [if_neg h, if_neg h1]⟩⟩

@[go_sem] noncomputable def c_wide_Cmp : Cn := fn2 tW tW (fun _ _ => True) fun x y => .z (cmpN x y)
noncomputable def cx_wide_Cmp : Cx := { T := T, E := E, cs := [(46, c_cmp_Compare_uint64)], sch := [], ob := [], qs := [46] }
@[go_sem] theorem cx_wide_Cmp_e : cx_wide_Cmp.gs = none ∧ cx_wide_Cmp.md = 0 ∧ cx_wide_Cmp.T = T ∧ cx_wide_Cmp.E = E ∧ cx_wide_Cmp.cs = [(46, c_cmp_Compare_uint64)] ∧ ∀ d, (cx_wide_Cmp.ob).contains d = false := ⟨rfl, rfl, rfl, rfl, rfl, fun _ => rfl⟩
theorem cok_wide_Cmp : COk Try.prog (cx_wide_Cmp) := cok_of rfl (.cons ok_cmp_Compare_uint64 (.nil)) (.cons (fun _ => fn2_quiet) (.nil)) (.nil)
theorem ok_wide_Cmp : Ok Try.prog 30 c_wide_Cmp := by
  refine ok_fn2 cok_wide_Cmp mixed Try.func30 rfl (by kernel_rfl) (by kernel_rfl) rfl ?_
  intro x y om hw _
  simp only [go_sem, Try.f30, kn1, kn2, kn3, kn4, kn5, kn6, kn7, kn8, kn9, kz1, kz2, kz3, kz4, kz5, kz6, kz7, kz8, kz9, kz0, reduceCtorEq, String.reduceEq, kn0, kq1, kq2, kq3, kq4, Int.toNat_natCast]
  refine ⟨fun h _ => ?_, fun h _ => ?_⟩ <;> unfold cmpN <;> (repeat' split) <;> first | rfl | omega

theorem mul_split (x y : Nat) : x * y % 340282366920938463463374607431768211456 =
    (x % 18446744073709551616 * (y % 18446744073709551616) / 18446744073709551616 + (x / 18446744073709551616 * (y % 18446744073709551616) + x % 18446744073709551616 * (y / 18446744073709551616))) % 18446744073709551616 * 18446744073709551616 + x % 18446744073709551616 * (y % 18446744073709551616) % 18446744073709551616 := by
  obtain ⟨a, ha⟩ : ∃ a, x / 18446744073709551616 = a := ⟨_, rfl⟩
  obtain ⟨b, hb⟩ : ∃ b, x % 18446744073709551616 = b := ⟨_, rfl⟩
  obtain ⟨c, hc⟩ : ∃ c, y / 18446744073709551616 = c := ⟨_, rfl⟩
  obtain ⟨d, hd⟩ : ∃ d, y % 18446744073709551616 = d := ⟨_, rfl⟩
  have ex : x = a * 18446744073709551616 + b := by omega
  have ey : y = c * 18446744073709551616 + d := by omega
  rw [ha, hb, hc, hd]
  have e : x * y = a * c * 340282366920938463463374607431768211456 + (a * d + b * c) * 18446744073709551616 + b * d := by
    rw [ex, ey, Nat.add_mul, Nat.mul_add, Nat.mul_add]
    have e1 : a * 18446744073709551616 * (c * 18446744073709551616) = a * c * 340282366920938463463374607431768211456 := by
      rw [Nat.mul_mul_mul_comm]
    have e2 : a * 18446744073709551616 * d = a * d * 18446744073709551616 := by rw [Nat.mul_right_comm]
    have e3 : b * (c * 18446744073709551616) = b * c * 18446744073709551616 := by rw [Nat.mul_assoc]
    rw [e1, e2, e3, Nat.add_mul]; omega
  rw [e]
  generalize a * c = p; generalize a * d = q; generalize b * c = r; generalize b * d = s
  omega

@[go_sem] noncomputable def c_wide_Mul : Cn := fn2 tW tW (fun _ _ => True) fun x y => vW (x * y % 340282366920938463463374607431768211456)
end Go.Proofs.Ytlcnohmnemmbdaa.I
/- affine: maps x -> a x + b of 128 bits. -/
namespace Go.Proofs.Ytlcnohmnemmbdaa.I
open Go
open Nat renaming reduceEqDiff → kn1, reduceBEq → kn2, reducePow → kn3, reduceMod → kn4, reduceAdd → kn5, reduceSub → kn6, reduceMul → kn7, reduceDiv → kn8, reduceLeDiff → kn9, reduceLT → kn0, zero_lt_one → kq1, zero_add → kq2, zero_le → kq3, le_refl → kq4
open Int renaming reduceToNat → kz1, reduceAdd → kz2, reduceSub → kz3, reduceMul → kz4, reduceDiv → kz5, reduceMod → kz6, reduceLE → kz7, reduceLT → kz8, reduceNeg → kz9, reduceEq → kz0
set_option maxRecDepth 10000
set_option linter.unusedSimpArgs false
set_option linter.unusedVariables false

/-- Two numbers of 128 bits. -/
structure D2 where
  a : Nat
  b : Nat
deriving DecidableEq
def v2 (s : D2) : V := .agg [.n .u64 (s.a / 18446744073709551616), .n .u64 (s.a % 18446744073709551616), .n .u64 (s.b / 18446744073709551616), .n .u64 (s.b % 18446744073709551616)]
@[go_sem] theorem v2_eq (s : D2) : v2 s = .agg [.n .u64 (s.a / 18446744073709551616), .n .u64 (s.a % 18446744073709551616), .n .u64 (s.b / 18446744073709551616), .n .u64 (s.b % 18446744073709551616)] := rfl
noncomputable def t2 : Ty D2 := Ty.by v2 fun s t h => by
  cases s; cases t
  simp only [v2_eq, V.agg.injEq, List.cons.injEq, V.n.injEq, true_and, and_true] at h
  simp only [D2.mk.injEq]
  omega
@[go_sem] theorem t2_enc (s : D2) : t2.enc s = .agg [.n .u64 (s.a / 18446744073709551616), .n .u64 (s.a % 18446744073709551616), .n .u64 (s.b / 18446744073709551616), .n .u64 (s.b % 18446744073709551616)] := rfl
@[go_sem] theorem t2_dec (a b : Nat) : t2.dec (.agg [.n .u64 (a / 18446744073709551616), .n .u64 (a % 18446744073709551616), .n .u64 (b / 18446744073709551616), .n .u64 (b % 18446744073709551616)]) = some ⟨a, b⟩ := t2.h1 ⟨a, b⟩
def D2.wf (s : D2) : Prop := s.a < 340282366920938463463374607431768211456 ∧ s.b < 340282366920938463463374607431768211456
theorem wf_2 {s : D2} {vs : List V} (h : wfs (.agg [.n .u64 (s.a / 18446744073709551616), .n .u64 (s.a % 18446744073709551616), .n .u64 (s.b / 18446744073709551616), .n .u64 (s.b % 18446744073709551616)] :: vs)) : s.wf := by
  have h1 : s.a / 18446744073709551616 < 18446744073709551616 := h.1.1
  have h2 : s.b / 18446744073709551616 < 18446744073709551616 := h.1.2.2.1
  exact ⟨by omega, by omega⟩
@[go_sem] theorem D2_eta (s : D2) : D2.mk s.a s.b = s := rfl

/-- The map at a number. -/
def aat (m : D2) (x : Nat) : Nat := (m.a * x + m.b) % 340282366920938463463374607431768211456
/-- One map, and then another. -/
def athen (m k : D2) : D2 := ⟨k.a * m.a % 340282366920938463463374607431768211456, aat k m.b⟩
def aone : D2 := ⟨1, 0⟩
def apow (m : D2) : Nat → D2
  | 0 => aone
  | n + 1 => athen (apow m n) m

theorem aat_then (m k : D2) (x : Nat) : aat (athen m k) x = aat k (aat m x) := by
  unfold athen aat
  simp only
  rw [Nat.add_mod, Nat.mod_mul_mod, Nat.mod_mod, ← Nat.add_mod]
  conv => rhs; rw [Nat.add_mod, Nat.mul_mod, Nat.mod_mod, ← Nat.mul_mod, ← Nat.add_mod]
  congr 1
  rw [Nat.mul_add, Nat.mul_assoc]; omega
theorem athen_assoc (m k l : D2) : athen (athen m k) l = athen m (athen k l) := by
  have h := aat_then k l m.b
  unfold athen at h ⊢
  simp only [D2.mk.injEq]
  refine ⟨?_, h.symm⟩
  rw [Nat.mul_mod, Nat.mod_mod, ← Nat.mul_mod, Nat.mod_mul_mod, Nat.mul_assoc]
theorem athen_one {m : D2} (h : m.wf) : athen m aone = m := by
  unfold athen aat aone
  simp only [Nat.one_mul, Nat.add_zero]
  rw [Nat.mod_eq_of_lt h.1, Nat.mod_eq_of_lt h.2]
theorem one_athen {m : D2} (h : m.wf) : athen aone m = m := by
  unfold athen aat aone
  simp only [Nat.mul_one, Nat.mul_zero, Nat.zero_add]
  rw [Nat.mod_eq_of_lt h.1, Nat.mod_eq_of_lt h.2]
theorem aone_wf : aone.wf := ⟨by decide, by decide⟩
theorem athen_wf (m k : D2) : (athen m k).wf := ⟨Nat.mod_lt _ (by omega), Nat.mod_lt _ (by omega)⟩
theorem apow_wf (m : D2) : ∀ n, (apow m n).wf
  | 0 => aone_wf
  | _ + 1 => athen_wf _ _
theorem apow_add (m : D2) (n : Nat) : ∀ k, apow m (n + k) = athen (apow m n) (apow m k)
  | 0 => by simp only [Nat.add_zero, apow]; rw [athen_one (apow_wf m n)]
  | k + 1 => by rw [← Nat.add_assoc]; simp only [apow]; rw [apow_add m n k, athen_assoc]
theorem apow_one {m : D2} (h : m.wf) : apow m 1 = m := by simp only [apow]; rw [one_athen h]
theorem apow_dbl {m : D2} (h : m.wf) : ∀ n, apow (athen m m) n = apow m (2 * n)
  | 0 => rfl
  | n + 1 => by
    rw [show 2 * (n + 1) = 2 * n + 1 + 1 by omega]
    simp only [apow]; rw [apow_dbl h n, athen_assoc]

@[go_sem] noncomputable def c_affine_One : Cn := fn0 (v2 aone)
@[go_sem] noncomputable def c_affine_At : Cn := fn2 t2 tW (fun _ _ => True) fun m x => vW (aat m x)
@[go_sem] noncomputable def c_affine_Then : Cn := fn2 t2 t2 (fun _ _ => True) fun m k => v2 (athen m k)
theorem tb_0 (n : Nat) : tb n 0 = ((n % 2 : Nat) : Int) := by
  unfold tb
  rw [show n.testBit (Int.toNat 0) = decide (n % 2 = 1) by simp [Nat.testBit_zero]]
  by_cases h : n % 2 = 1
  · simp [h]
  · have h' : n % 2 = 0 := by omega
    simp [h']
theorem pow_odd {o k : D2} {j : Nat} (hk : k.wf) (h : j % 2 = 1) : athen (athen o k) (apow (athen k k) (j >>> 1)) = athen o (apow k j) := by
  rw [apow_dbl hk, Nat.shiftRight_eq_div_pow, athen_assoc]
  congr 1
  have e := apow_add k 1 (2 * (j / 2 ^ 1))
  rw [apow_one hk, show 1 + 2 * (j / 2 ^ 1) = j by omega] at e
  exact e.symm
theorem pow_even {o k : D2} {j : Nat} (hk : k.wf) (h : ¬ j % 2 = 1) : athen o (apow (athen k k) (j >>> 1)) = athen o (apow k j) := by
  rw [apow_dbl hk, Nat.shiftRight_eq_div_pow, show 2 * (j / 2 ^ 1) = j by omega]

@[go_sem] noncomputable def c_affine_Power : Cn := fn2 t2 tW (fun _ _ => True) fun m n => v2 (apow m n)
end Go.Proofs.Ytlcnohmnemmbdaa.I
/- mix: Step, inverse, rounds, Mix, Word, Jump. -/
namespace Go.Proofs.Ytlcnohmnemmbdaa.I
open Go
open Nat renaming reduceEqDiff → kn1, reduceBEq → kn2, reducePow → kn3, reduceMod → kn4, reduceAdd → kn5, reduceSub → kn6, reduceMul → kn7, reduceDiv → kn8, reduceLeDiff → kn9, reduceLT → kn0, zero_lt_one → kq1, zero_add → kq2, zero_le → kq3, le_refl → kq4
open Int renaming reduceToNat → kz1, reduceAdd → kz2, reduceSub → kz3, reduceMul → kz4, reduceDiv → kz5, reduceMod → kz6, reduceLE → kz7, reduceLT → kz8, reduceNeg → kz9, reduceEq → kz0
set_option maxRecDepth 10000
set_option linter.unusedSimpArgs false
set_option linter.unusedVariables false

def mstep (x : Nat) : Nat := (x + 11400714819323198485) % 18446744073709551616
@[go_sem] def c_mix_Step : Cn := fn1 (tN .u64) (fun _ => True) fun x => .n .u64 (mstep x)
def newt (x : Nat) : Nat → Nat
  | 0 => x
  | k + 1 => newt x k * ((18446744073709551618 - x * newt x k % 18446744073709551616) % 18446744073709551616) % 18446744073709551616
@[go_sem] def c_mix_inverse : Cn := fn1 (tN .u64) (fun _ => True) fun x => .n .u64 (newt x 6)
def mixR (s t x : Nat) : Nat := (x ^^^ x >>> s) * t % 18446744073709551616
def mix1 (x : Nat) : Nat := mixR 30 13787848793156543929 x
def mix2 (x : Nat) : Nat := mixR 27 10723151780598845931 (mix1 x)
def mix3 (x : Nat) : Nat := mixR 31 1 (mix2 x)
def mixA (x k : Nat) : Nat := if k = 0 then x else if k = 1 then mix1 x else if k = 2 then mix2 x else mix3 x
theorem mixA_0 (x : Nat) : mixA x 0 = x := if_pos rfl
theorem mixA_1 (x : Nat) : mixA x 1 = mix1 x := by unfold mixA; rw [if_neg (by decide), if_pos rfl]
theorem mixA_2 (x : Nat) : mixA x 2 = mix2 x := by unfold mixA; rw [if_neg (by decide), if_neg (by decide), if_pos rfl]
theorem mixA_3 (x : Nat) : mixA x 3 = mix3 x := by unfold mixA; rw [if_neg (by decide), if_neg (by decide), if_neg (by decide)]
def mixTT (a b : Nat) : V := .agg [.z 30, .n .u64 13787848793156543929, .n .u64 a, .z 27, .n .u64 10723151780598845931, .n .u64 b, .z 31, .n .u64 1, .n .u64 1]
def mixT : V := mixTT (newt 13787848793156543929 6) (newt 10723151780598845931 6)
theorem mixT_eq : ∃ a b, mixT = mixTT a b := ⟨_, _, rfl⟩
@[go_sem] def c_mix_rounds : Cn := fn0 mixT
@[go_sem] def c_mix_Mix : Cn := fn1 (tN .u64) (fun _ => True) fun x => .n .u64 (mix3 x)
def mword (x : Nat) : Nat := mix3 (mstep x)
@[go_sem] def c_mix_Word : Cn := fn1 (tN .u64) (fun _ => True) fun x => .n .u64 (mword x)
def mjump (x n : Nat) : Nat := (x + n * 11400714819323198485) % 18446744073709551616
@[go_sem] noncomputable def c_mix_Jump : Cn := fn2 (tN .u64) tW (fun _ _ => True) fun x n => .n .u64 (mjump x n)
end Go.Proofs.Ytlcnohmnemmbdaa.I
/- xosh: Step, Right, Add; the references 07: Step, Jump; 08: Add. -/
namespace Go.Proofs.Ytlcnohmnemmbdaa.I
open Go
open Nat renaming reduceEqDiff → kn1, reduceBEq → kn2, reducePow → kn3, reduceMod → kn4, reduceAdd → kn5, reduceSub → kn6, reduceMul → kn7, reduceDiv → kn8, reduceLeDiff → kn9, reduceLT → kn0, zero_lt_one → kq1, zero_add → kq2, zero_le → kq3, le_refl → kq4
open Int renaming reduceToNat → kz1, reduceAdd → kz2, reduceSub → kz3, reduceMul → kz4, reduceDiv → kz5, reduceMod → kz6, reduceLE → kz7, reduceLT → kz8, reduceNeg → kz9, reduceEq → kz0
set_option maxRecDepth 10000
set_option linter.unusedSimpArgs false
set_option linter.unusedVariables false

/-- A state: four words. -/
structure X4 where
  a : Nat
  b : Nat
  c : Nat
  d : Nat
deriving DecidableEq
@[go_sem] theorem X4_eta (s : X4) : X4.mk s.a s.b s.c s.d = s := rfl
def vX (s : X4) : V := .agg [.n .u64 s.a, .n .u64 s.b, .n .u64 s.c, .n .u64 s.d]
@[go_sem] theorem vX_eq (s : X4) : vX s = .agg [.n .u64 s.a, .n .u64 s.b, .n .u64 s.c, .n .u64 s.d] := rfl
noncomputable def tX : Ty X4 := Ty.by vX fun s t h => by
  cases s; cases t
  simp only [vX_eq, V.agg.injEq, List.cons.injEq, V.n.injEq, true_and, and_true] at h
  simp [h]
@[go_sem] theorem tX_enc (s : X4) : tX.enc s = .agg [.n .u64 s.a, .n .u64 s.b, .n .u64 s.c, .n .u64 s.d] := rfl
@[go_sem] theorem tX_dec (a b c d : Nat) : tX.dec (.agg [.n .u64 a, .n .u64 b, .n .u64 c, .n .u64 d]) = some ⟨a, b, c, d⟩ := tX.h1 ⟨a, b, c, d⟩
def X4.wf (s : X4) : Prop := s.a < 18446744073709551616 ∧ s.b < 18446744073709551616 ∧ s.c < 18446744073709551616 ∧ s.d < 18446744073709551616
theorem wf_x {s : X4} {vs : List V} (h : wfs (.agg [.n .u64 s.a, .n .u64 s.b, .n .u64 s.c, .n .u64 s.d] :: vs)) : s.wf := ⟨h.1.1, h.1.2.1, h.1.2.2.1, h.1.2.2.2.1⟩

def rot (x : Nat) : Nat := (x <<< 45) % 18446744073709551616 ||| x >>> 19
def xstep (s : X4) : X4 := ⟨s.a ^^^ (s.d ^^^ s.b), s.b ^^^ (s.c ^^^ s.a), (s.c ^^^ s.a) ^^^ ((s.b <<< 17) % 18446744073709551616), rot (s.d ^^^ s.b)⟩
def xadd (s t : X4) : X4 := ⟨s.a ^^^ t.a, s.b ^^^ t.b, s.c ^^^ t.c, s.d ^^^ t.d⟩
/-- The words below k added. -/
def addK (s t : X4) : Nat → X4
  | 0 => s
  | 1 => ⟨s.a ^^^ t.a, s.b, s.c, s.d⟩
  | 2 => ⟨s.a ^^^ t.a, s.b ^^^ t.b, s.c, s.d⟩
  | 3 => ⟨s.a ^^^ t.a, s.b ^^^ t.b, s.c ^^^ t.c, s.d⟩
  | _ => ⟨s.a ^^^ t.a, s.b ^^^ t.b, s.c ^^^ t.c, s.d ^^^ t.d⟩
theorem rot_lt {x : Nat} (h : x < 18446744073709551616) : rot x < 18446744073709551616 := by
  unfold rot
  refine Nat.or_lt_two_pow (n := 64) (Nat.mod_lt _ (by omega)) ?_
  rw [Nat.shiftRight_eq_div_pow]
  exact Nat.lt_of_le_of_lt (Nat.div_le_self _ _) h
theorem xor_lt {x y : Nat} (h : x < 18446744073709551616) (g : y < 18446744073709551616) : x ^^^ y < 18446744073709551616 := Nat.xor_lt_two_pow (n := 64) h g
theorem X4.wf.d_xor_b {s : X4} (h : s.wf) : s.d ^^^ s.b < 18446744073709551616 := xor_lt h.2.2.2 h.2.1
theorem xstep_wf {s : X4} (h : s.wf) : (xstep s).wf := by
  obtain ⟨h1, h2, h3, h4⟩ := h
  exact ⟨xor_lt h1 (xor_lt h4 h2), xor_lt h2 (xor_lt h3 h1), xor_lt (xor_lt h3 h1) (Nat.mod_lt _ (by omega)), rot_lt (xor_lt h4 h2)⟩
def x0 : X4 := ⟨0, 0, 0, 0⟩

def rot7 (x : Nat) : Nat := (x <<< 7) % 18446744073709551616 ||| x >>> 57
def rotk (x : Nat) (k : Int) : Nat := if k = 45 then rot x else rot7 x
@[go_sem] theorem rotk_45 (x : Nat) : rotk x 45 = rot x := rfl
@[go_sem] theorem rotk_7 (x : Nat) : rotk x 7 = rot7 x := rfl
@[go_sem] def c_math_bits_RotateLeft64 : Cn := fn2 (tN .u64) tZ (fun _ k => k = 45 ∨ k = 7) fun x k => .n .u64 (rotk x k)
@[go_sem] def c_ref07_Turned : Cn := fn2 (tN .u64) tZ (fun _ k => k = 45 ∨ k = 7) fun x k => .n .u64 (rotk x k)
/-- A state's word. -/
def xword (s : X4) : Nat := rot7 (s.b * 5 % 18446744073709551616) * 9 % 18446744073709551616
@[go_sem] noncomputable def c_xosh_Word : Cn := fn1 tX (fun _ => True) fun s => .n .u64 (xword s)
@[go_sem] noncomputable def c_ref07_Word : Cn := fn1 tX (fun _ => True) fun s => .n .u64 (xword s)
@[go_sem] noncomputable def c_xosh_Step : Cn := fn1 tX (fun _ => True) fun s => vX (xstep s)
@[go_sem] noncomputable def c_ref07_Step : Cn := fn1 tX (fun _ => True) fun s => vX (xstep s)
@[go_sem] noncomputable def c_xosh_Right : Cn := fn1 tX (fun _ => True) fun s => .b (decide (s ≠ x0))
@[go_sem] noncomputable def c_ref08_Add : Cn := fn2 tX tX (fun _ _ => True) fun s t => vX (xadd s t)
@[go_sem] noncomputable def c_xosh_Add : Cn := fn2 tX tX (fun _ _ => True) fun s t => vX (xadd s t)
end Go.Proofs.Ytlcnohmnemmbdaa.I
