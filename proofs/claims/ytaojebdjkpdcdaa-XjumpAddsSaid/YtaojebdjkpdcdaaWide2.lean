/- wide: Add64, Sub64, Mul64; Of, Full, Add, Sub, Left. -/
import Derived.Test.YtaojebdjkpdcdaaWide1
import Derived.Shelf.Spec.BitsCarry
namespace Go.Proofs.Ytaojebdjkpdcdaa.I
open Go
set_option maxRecDepth 10000
set_option linter.unusedSimpArgs false
set_option linter.unusedVariables false

theorem rep_pair {X : Lay} {a b : Nat} (ha : a < 18446744073709551616) (hb : b < 18446744073709551616) : Rep X (.tuple #[.int .u64 (a : Int), .int .u64 (b : Int)]) (.tup [.n .u64 a, .n .u64 b]) := by
  refine .tup _ _ rfl fun k h h' => ?_
  match k, h with
  | 0, _ => exact .n _ _ rfl ha
  | 1, _ => exact .n _ _ rfl hb

theorem rep_u64 {X : Lay} {v : Value} {x : Nat} (h : Rep X v (.n .u64 x)) : v = .int .u64 (x : Int) ∧ x < 18446744073709551616 := by
  cases h with | n _ _ _ h => exact ⟨rfl, h⟩
noncomputable def c_math_bits_Add64 : Cn := fn3 (tN .u64) (tN .u64) (tN .u64) (fun _ _ c => c ≤ 1) fun x y c => .tup [.n .u64 ((x + y + c) % 18446744073709551616), .n .u64 ((x + y + c) / 18446744073709551616)]
def bor64 (x y b : Nat) : Nat := if x < y + b then 1 else 0
noncomputable def c_math_bits_Sub64 : Cn := fn3 (tN .u64) (tN .u64) (tN .u64) (fun _ _ c => c ≤ 1) fun x y c => .tup [.n .u64 ((x + 18446744073709551616 - y - c) % 18446744073709551616), .n .u64 (bor64 x y c)]
theorem three_u64 {X : Lay} {vs : List Value} {args : List V} {om : Om} {Q : V → Om → Prop} {pre : Nat → Nat → Nat → Prop} {g : Nat → Nat → Nat → V} (hr : RepL X vs args) (hc : @fn3 _ _ _ (tN .u64) (tN .u64) (tN .u64) pre g args om ⟨Q⟩) :
    ∃ x y z : Nat, vs.toArray = #[.int .u64 (x : Int), .int .u64 (y : Int), .int .u64 (z : Int)] ∧ x < 18446744073709551616 ∧ y < 18446744073709551616 ∧ pre x y z ∧ Q (g x y z) om := by
  unfold fn3 at hc
  split at hc <;> first | exact hc.elim | skip
  rename_i a b c
  obtain ⟨x, hx, hc⟩ := so_inv hc
  obtain ⟨y, hy, hc⟩ := so_inv hc
  obtain ⟨z, hz, h1, h2⟩ := so_inv hc
  obtain rfl := (tN .u64).h2 _ _ hx
  obtain rfl := (tN .u64).h2 _ _ hy
  obtain rfl := (tN .u64).h2 _ _ hz
  cases hr with | cons r1 hr =>
  cases hr with | cons r2 hr =>
  cases hr with | cons r3 hr =>
  cases hr
  obtain ⟨rfl, l1⟩ := rep_u64 r1
  obtain ⟨rfl, l2⟩ := rep_u64 r2
  obtain ⟨rfl, l3⟩ := rep_u64 r3
  exact ⟨x, y, z, rfl, l1, l2, h1, h2⟩
theorem okX_math_bits_Add64 : OkX Try.prog 80 c_math_bits_Add64 where
  mono := fn3_mono
  gives := fun X om args vs Q G hr hcl hc => by
    obtain ⟨x, y, z, e, l1, l2, h1, h2⟩ := three_u64 hr hc
    refine ⟨_, _, ?_, rep_pair ?_ ?_, h2⟩
    · rw [e, run_callFunc_extern Try.func80 (by kernel_rfl) (by kernel_rfl) (by kernel_rfl) (e := add64Entry) (by kernel_rfl), run_add64 x y z (by omega) (by omega) (by omega) (by omega)]
      rfl
    · omega
    · omega
theorem okX_math_bits_Sub64 : OkX Try.prog 67 c_math_bits_Sub64 where
  mono := fn3_mono
  gives := fun X om args vs Q G hr hcl hc => by
    obtain ⟨x, y, z, e, l1, l2, h1, h2⟩ := three_u64 hr hc
    refine ⟨_, _, ?_, rep_pair ?_ ?_, h2⟩
    · rw [e, run_callFunc_extern Try.func67 (by kernel_rfl) (by kernel_rfl) (by kernel_rfl) (e := Proofs.sub64Entry) (by kernel_rfl), Proofs.run_sub64 x y z h1]
      rfl
    · omega
    · unfold bor64; split <;> omega

noncomputable def c_wide_Of : Cn := fn1 (tN .u64) (fun _ => True) vW
noncomputable def cx_wide_Of : Cx := { T := T, E := E, cs := [], sch := [], ob := [], qs := [] }
@[go_sem] theorem cx_wide_Of_md : cx_wide_Of.md = 0 := rfl
@[go_sem] theorem cx_wide_Of_T : cx_wide_Of.T = T := rfl
@[go_sem] theorem cx_wide_Of_E : cx_wide_Of.E = E := rfl
@[go_sem] theorem cx_wide_Of_cs : cx_wide_Of.cs = [] := rfl
@[go_sem] theorem cx_wide_Of_ob (d : Nat) : (cx_wide_Of.ob).contains d = false := rfl
theorem cok_wide_Of : COk Try.prog (cx_wide_Of) := cok_of rfl (.nil) (.nil) (.nil)
theorem ok_wide_Of : Ok Try.prog 27 c_wide_Of := by
  refine ok_fn1 cok_wide_Of mixed Try.func27 rfl (by kernel_rfl) (by kernel_rfl) rfl ?_
  intro x om hw _
  have hx : x < 18446744073709551616 := by have := hw.1; simpa [tN, V.wf, IntKind.bits] using this
  simp only [go_sem, Try.f27, Nat.reduceEqDiff, Nat.reduceBEq, Int.reduceToNat, Nat.reducePow, Nat.reduceMod, Nat.reduceAdd, Nat.reduceSub, Nat.reduceMul, Nat.reduceDiv, Nat.reduceLeDiff, Int.reduceAdd, Int.reduceSub, Int.reduceMul, Int.reduceDiv, Int.reduceMod, Int.reduceLE, Int.reduceLT, Int.reduceNeg, Int.reduceEq, Int.cast_ofNat_Int, Int.natCast_zero, List.contains_cons, List.contains_nil, Bool.or_false, Bool.or_true, Bool.true_or, reduceCtorEq, or_false, or_true, false_or, true_or, and_false, false_and, ne_eq, List.take_zero, List.take_succ_cons, List.take_nil, List.drop_zero, List.drop_succ_cons, List.drop_nil, decide_true, decide_false]
  exact ⟨by omega, by omega, by omega, by omega⟩

theorem mul_hi (x y : Nat) (hx : x < 18446744073709551616) (hy : y < 18446744073709551616) : x * y / 18446744073709551616 =
    (x / 4294967296 * (y / 4294967296) + (x / 4294967296 * (y % 4294967296) + x % 4294967296 * (y % 4294967296) / 4294967296) / 4294967296 + ((x / 4294967296 * (y % 4294967296) + x % 4294967296 * (y % 4294967296) / 4294967296) % 4294967296 + x % 4294967296 * (y / 4294967296)) / 4294967296) := by
  obtain ⟨a, ha⟩ : ∃ a, x / 4294967296 = a := ⟨_, rfl⟩
  obtain ⟨b, hb⟩ : ∃ b, x % 4294967296 = b := ⟨_, rfl⟩
  obtain ⟨c, hc⟩ : ∃ c, y / 4294967296 = c := ⟨_, rfl⟩
  obtain ⟨d, hd⟩ : ∃ d, y % 4294967296 = d := ⟨_, rfl⟩
  have ex : x = a * 4294967296 + b := by omega
  have ey : y = c * 4294967296 + d := by omega
  rw [ha, hb, hc, hd]
  have e : x * y = a * c * 18446744073709551616 + (a * d + b * c) * 4294967296 + b * d := by
    rw [ex, ey, Nat.add_mul, Nat.mul_add, Nat.mul_add]
    have e1 : a * 4294967296 * (c * 4294967296) = a * c * 18446744073709551616 := by
      rw [Nat.mul_mul_mul_comm]
    have e2 : a * 4294967296 * d = a * d * 4294967296 := by rw [Nat.mul_right_comm]
    have e3 : b * (c * 4294967296) = b * c * 4294967296 := by rw [Nat.mul_assoc]
    rw [e1, e2, e3, Nat.add_mul]; omega
  rw [e]
  generalize a * c = p; generalize a * d = q; generalize b * c = r; generalize b * d = s
  omega
noncomputable def c_math_bits_Mul64 : Cn := fn2 (tN .u64) (tN .u64) (fun _ _ => True) fun x y => .tup [.n .u64 (x * y / 18446744073709551616), .n .u64 (x * y % 18446744073709551616)]
noncomputable def cx_math_bits_Mul64 : Cx := { T := T, E := E, cs := [], sch := [], ob := [], qs := [] }
@[go_sem] theorem cx_math_bits_Mul64_md : cx_math_bits_Mul64.md = 0 := rfl
@[go_sem] theorem cx_math_bits_Mul64_T : cx_math_bits_Mul64.T = T := rfl
@[go_sem] theorem cx_math_bits_Mul64_E : cx_math_bits_Mul64.E = E := rfl
@[go_sem] theorem cx_math_bits_Mul64_cs : cx_math_bits_Mul64.cs = [] := rfl
@[go_sem] theorem cx_math_bits_Mul64_ob (d : Nat) : (cx_math_bits_Mul64.ob).contains d = false := rfl
theorem cok_math_bits_Mul64 : COk Try.prog (cx_math_bits_Mul64) := cok_of rfl (.nil) (.nil) (.nil)
theorem ok_math_bits_Mul64 : Ok Try.prog 64 c_math_bits_Mul64 := by
  refine ok_fn2 cok_math_bits_Mul64 mixed Try.func64 rfl (by kernel_rfl) (by kernel_rfl) rfl ?_
  intro x y om hw _
  have hx : x < 18446744073709551616 := by have := hw.1; simpa [tN, V.wf, IntKind.bits] using this
  have hy : y < 18446744073709551616 := by have := hw.2.1; simpa [tN, V.wf, IntKind.bits] using this
  simp only [go_sem, Try.f64, Nat.reduceEqDiff, Nat.reduceBEq, Int.reduceToNat, Nat.reducePow, Nat.reduceMod, Nat.reduceAdd, Nat.reduceSub, Nat.reduceMul, Nat.reduceDiv, Nat.reduceLeDiff, Int.reduceAdd, Int.reduceSub, Int.reduceMul, Int.reduceDiv, Int.reduceMod, Int.reduceLE, Int.reduceLT, Int.reduceNeg, Int.reduceEq, Int.cast_ofNat_Int, Int.natCast_zero, List.contains_cons, List.contains_nil, Bool.or_false, Bool.or_true, Bool.true_or, reduceCtorEq, or_false, or_true, false_or, true_or, and_false, false_and, ne_eq, List.take_zero, List.take_succ_cons, List.take_nil, List.drop_zero, List.drop_succ_cons, List.drop_nil, decide_true, decide_false]
  rw [mul_hi x y hx hy]
  have m : ∀ z : Nat, z &&& 4294967295 = z % 4294967296 := fun z => Nat.and_two_pow_sub_one_eq_mod z 32
  have sh : ∀ z : Nat, z >>> 32 = z / 4294967296 := fun z => Nat.shiftRight_eq_div_pow z 32
  simp only [m, sh]
  have b : ∀ a c : Nat, a < 4294967296 → c < 4294967296 → a * c ≤ 18446744065119617025 := fun a c h1 h2 => Nat.mul_le_mul (show a ≤ 4294967295 by omega) (show c ≤ 4294967295 by omega)
  have b1 := b (x / 4294967296) (y / 4294967296) (by omega) (by omega)
  have b2 := b (x / 4294967296) (y % 4294967296) (by omega) (by omega)
  have b3 := b (x % 4294967296) (y / 4294967296) (by omega) (by omega)
  have b4 := b (x % 4294967296) (y % 4294967296) (by omega) (by omega)
  have t := mul_hi x y hx hy
  have tt : x * y / 18446744073709551616 < 18446744073709551616 := by
    refine Nat.div_lt_of_lt_mul ?_
    have := Nat.mul_lt_mul'' hx hy
    omega
  rw [t] at tt
  clear t
  revert b1 b2 b3 b4 tt
  generalize x / 4294967296 * (y / 4294967296) = p; generalize x / 4294967296 * (y % 4294967296) = q; generalize x % 4294967296 * (y / 4294967296) = r; generalize x % 4294967296 * (y % 4294967296) = s
  intro b1 b2 b3 b4 tt
  omega

noncomputable def c_wide_Full : Cn := fn2 (tN .u64) (tN .u64) (fun _ _ => True) fun x y => vW (x * y)
noncomputable def cx_wide_Full : Cx := { T := T, E := E, cs := [(64, c_math_bits_Mul64)], sch := [], ob := [], qs := [64] }
@[go_sem] theorem cx_wide_Full_md : cx_wide_Full.md = 0 := rfl
@[go_sem] theorem cx_wide_Full_T : cx_wide_Full.T = T := rfl
@[go_sem] theorem cx_wide_Full_E : cx_wide_Full.E = E := rfl
@[go_sem] theorem cx_wide_Full_cs : cx_wide_Full.cs = [(64, c_math_bits_Mul64)] := rfl
@[go_sem] theorem cx_wide_Full_ob (d : Nat) : (cx_wide_Full.ob).contains d = false := rfl
theorem cok_wide_Full : COk Try.prog (cx_wide_Full) := cok_of rfl (.cons ok_math_bits_Mul64 (.nil)) (.cons (fun _ => fn2_quiet) (.nil)) (.nil)
theorem ok_wide_Full : Ok Try.prog 33 c_wide_Full := by
  refine ok_fn2 cok_wide_Full mixed Try.func33 rfl (by kernel_rfl) (by kernel_rfl) rfl ?_
  intro x y om hw _
  simp only [go_sem, Try.f33, Nat.reduceEqDiff, Nat.reduceBEq, Int.reduceToNat, Nat.reducePow, Nat.reduceMod, Nat.reduceAdd, Nat.reduceSub, Nat.reduceMul, Nat.reduceDiv, Nat.reduceLeDiff, Int.reduceAdd, Int.reduceSub, Int.reduceMul, Int.reduceDiv, Int.reduceMod, Int.reduceLE, Int.reduceLT, Int.reduceNeg, Int.reduceEq, Int.cast_ofNat_Int, Int.natCast_zero, List.contains_cons, List.contains_nil, Bool.or_false, Bool.or_true, Bool.true_or, reduceCtorEq, or_false, or_true, false_or, true_or, and_false, false_and, ne_eq, List.take_zero, List.take_succ_cons, List.take_nil, List.drop_zero, List.drop_succ_cons, List.drop_nil, decide_true, decide_false, c_math_bits_Mul64]
  exact fun _ => Nat.zero_lt_one

noncomputable def c_wide_Add : Cn := fn2 tW tW (fun _ _ => True) fun x y => .tup [vW ((x + y) % 340282366920938463463374607431768211456), .b (decide (340282366920938463463374607431768211456 ≤ x + y))]
noncomputable def cx_wide_Add : Cx := { T := T, E := E, cs := [(80, c_math_bits_Add64)], sch := [], ob := [], qs := [80] }
@[go_sem] theorem cx_wide_Add_md : cx_wide_Add.md = 0 := rfl
@[go_sem] theorem cx_wide_Add_T : cx_wide_Add.T = T := rfl
@[go_sem] theorem cx_wide_Add_E : cx_wide_Add.E = E := rfl
@[go_sem] theorem cx_wide_Add_cs : cx_wide_Add.cs = [(80, c_math_bits_Add64)] := rfl
@[go_sem] theorem cx_wide_Add_ob (d : Nat) : (cx_wide_Add.ob).contains d = false := rfl
theorem cok_wide_Add : COk Try.prog (cx_wide_Add) := cok_of rfl (.consX okX_math_bits_Add64 (.nil)) (.cons (fun _ => fn3_quiet) (.nil)) (.nil)
theorem ok_wide_Add : Ok Try.prog 52 c_wide_Add := by
  refine ok_fn2 cok_wide_Add mixed Try.func52 rfl (by kernel_rfl) (by kernel_rfl) rfl ?_
  intro x y om hw _
  have hx := wf_w hw
  have hy := wf_w hw.2
  simp only [go_sem, Try.f52, Nat.reduceEqDiff, Nat.reduceBEq, Int.reduceToNat, Nat.reducePow, Nat.reduceMod, Nat.reduceAdd, Nat.reduceSub, Nat.reduceMul, Nat.reduceDiv, Nat.reduceLeDiff, Int.reduceAdd, Int.reduceSub, Int.reduceMul, Int.reduceDiv, Int.reduceMod, Int.reduceLE, Int.reduceLT, Int.reduceNeg, Int.reduceEq, Int.cast_ofNat_Int, Int.natCast_zero, List.contains_cons, List.contains_nil, Bool.or_false, Bool.or_true, Bool.true_or, reduceCtorEq, or_false, or_true, false_or, true_or, and_false, false_and, ne_eq, List.take_zero, List.take_succ_cons, List.take_nil, List.drop_zero, List.drop_succ_cons, List.drop_nil, decide_true, decide_false, c_math_bits_Add64]
  refine ⟨by omega, by omega, fun _ => ⟨by omega, by omega, by omega, fun _ => ⟨by omega, by omega, ⟨by omega, by omega⟩, ?_⟩⟩⟩
  exact decide_eq_decide.2 ⟨fun h => by omega, fun h => by omega⟩

noncomputable def c_wide_Sub : Cn := fn2 tW tW (fun _ _ => True) fun x y => .tup [vW ((x + 340282366920938463463374607431768211456 - y) % 340282366920938463463374607431768211456), .b (decide (x < y))]
noncomputable def cx_wide_Sub : Cx := { T := T, E := E, cs := [(67, c_math_bits_Sub64)], sch := [], ob := [], qs := [67] }
@[go_sem] theorem cx_wide_Sub_md : cx_wide_Sub.md = 0 := rfl
@[go_sem] theorem cx_wide_Sub_T : cx_wide_Sub.T = T := rfl
@[go_sem] theorem cx_wide_Sub_E : cx_wide_Sub.E = E := rfl
@[go_sem] theorem cx_wide_Sub_cs : cx_wide_Sub.cs = [(67, c_math_bits_Sub64)] := rfl
@[go_sem] theorem cx_wide_Sub_ob (d : Nat) : (cx_wide_Sub.ob).contains d = false := rfl
theorem cok_wide_Sub : COk Try.prog (cx_wide_Sub) := cok_of rfl (.consX okX_math_bits_Sub64 (.nil)) (.cons (fun _ => fn3_quiet) (.nil)) (.nil)
theorem ok_wide_Sub : Ok Try.prog 37 c_wide_Sub := by
  refine ok_fn2 cok_wide_Sub mixed Try.func37 rfl (by kernel_rfl) (by kernel_rfl) rfl ?_
  intro x y om hw _
  have hx := wf_w hw
  have hy := wf_w hw.2
  simp only [go_sem, Try.f37, Nat.reduceEqDiff, Nat.reduceBEq, Int.reduceToNat, Nat.reducePow, Nat.reduceMod, Nat.reduceAdd, Nat.reduceSub, Nat.reduceMul, Nat.reduceDiv, Nat.reduceLeDiff, Int.reduceAdd, Int.reduceSub, Int.reduceMul, Int.reduceDiv, Int.reduceMod, Int.reduceLE, Int.reduceLT, Int.reduceNeg, Int.reduceEq, Int.cast_ofNat_Int, Int.natCast_zero, List.contains_cons, List.contains_nil, Bool.or_false, Bool.or_true, Bool.true_or, reduceCtorEq, or_false, or_true, false_or, true_or, and_false, false_and, ne_eq, List.take_zero, List.take_succ_cons, List.take_nil, List.drop_zero, List.drop_succ_cons, List.drop_nil, decide_true, decide_false, c_math_bits_Sub64]
  obtain ⟨b, hb⟩ : ∃ b, bor64 (x % 18446744073709551616) (y % 18446744073709551616) 0 = b := ⟨_, rfl⟩
  obtain ⟨c, hc⟩ : ∃ c, bor64 (x / 18446744073709551616) (y / 18446744073709551616) b = c := ⟨_, rfl⟩
  rw [hb, hc]
  unfold bor64 at hb hc
  have hb' : (x % 18446744073709551616 < y % 18446744073709551616 ∧ b = 1) ∨ (¬ x % 18446744073709551616 < y % 18446744073709551616 ∧ b = 0) := by
    split at hb <;> omega
  have hc' : (x / 18446744073709551616 < y / 18446744073709551616 + b ∧ c = 1) ∨ (¬ x / 18446744073709551616 < y / 18446744073709551616 + b ∧ c = 0) := by
    split at hc <;> omega
  clear hb hc
  refine ⟨by omega, by omega, fun _ => ⟨by omega, by omega, by omega, fun _ => ⟨by omega, by omega, ⟨?_, ?_⟩, ?_⟩⟩⟩
  · omega
  · omega
  · exact decide_eq_decide.2 ⟨fun h => by omega, fun h => by omega⟩

noncomputable def c_wide_Left : Cn := fn2 tW tZ (fun _ _ => True) fun x i => vW ((x <<< i.toNat) % 340282366920938463463374607431768211456)
noncomputable def cx_wide_Left : Cx := { T := T, E := E, cs := [], sch := [(5, false, .take 0 (.take 1 (.take 2 (.take 3 (.take 4 (.take 5 (.take 6 (.take 7 (.take 8 (.take 9 (.take 10 (.take 11 (.take 12 (.take 13 (.take 14 (.alt 15 (.done) .no))))))))))))))))], ob := [], qs := [] }
@[go_sem] theorem cx_wide_Left_md : cx_wide_Left.md = 0 := rfl
@[go_sem] theorem cx_wide_Left_T : cx_wide_Left.T = T := rfl
@[go_sem] theorem cx_wide_Left_E : cx_wide_Left.E = E := rfl
@[go_sem] theorem cx_wide_Left_cs : cx_wide_Left.cs = [] := rfl
@[go_sem] theorem cx_wide_Left_sch : cx_wide_Left.sch = [(5, false, .take 0 (.take 1 (.take 2 (.take 3 (.take 4 (.take 5 (.take 6 (.take 7 (.take 8 (.take 9 (.take 10 (.take 11 (.take 12 (.take 13 (.take 14 (.alt 15 (.done) .no))))))))))))))))] := rfl
@[go_sem] theorem cx_wide_Left_ob (d : Nat) : (cx_wide_Left.ob).contains d = false := rfl
theorem cok_wide_Left : COk Try.prog (cx_wide_Left) := cok_of rfl (.nil) (.nil) (.nil)
theorem ok_wide_Left : Ok Try.prog 38 c_wide_Left := by
  refine ok_fn2 cok_wide_Left mixed Try.func38 rfl (by kernel_rfl) (by kernel_rfl) rfl ?_
  intro x i om hw _
  have hx := wf_w hw
  simp only [go_sem, Try.f38, Nat.reduceEqDiff, Nat.reduceBEq, Int.reduceToNat, Nat.reducePow, Nat.reduceMod, Nat.reduceAdd, Nat.reduceSub, Nat.reduceMul, Nat.reduceDiv, Nat.reduceLeDiff, Int.reduceAdd, Int.reduceSub, Int.reduceMul, Int.reduceDiv, Int.reduceMod, Int.reduceLE, Int.reduceLT, Int.reduceNeg, Int.reduceEq, Int.cast_ofNat_Int, Int.natCast_zero, List.contains_cons, List.contains_nil, Bool.or_false, Bool.or_true, Bool.true_or, reduceCtorEq, or_false, or_true, false_or, true_or, and_false, false_and, ne_eq, List.take_zero, List.take_succ_cons, List.take_nil, List.drop_zero, List.drop_succ_cons, List.drop_nil, decide_true, decide_false]
  have e : (18446744073709551616 : Nat) = 2 ^ 64 := rfl
  have e' : (340282366920938463463374607431768211456 : Nat) = 2 ^ 128 := rfl
  refine ⟨fun h => ?_, fun h => ⟨fun h1 => ⟨by omega, by omega, by omega, by omega, by omega, ?_, ?_⟩, fun h1 => ⟨by omega, by omega, by omega, by omega, by omega, by omega, by omega, by omega, by omega, ?_, ?_⟩⟩⟩
  · rw [show i.toNat = 0 by omega, Nat.shiftLeft_zero]
    exact ⟨by omega, by omega, by omega, by omega, by omega⟩
  · apply Nat.eq_of_testBit_eq
    intro j
    rw [e, e', Nat.testBit_mod_two_pow, Nat.testBit_shiftLeft, Nat.testBit_mod_two_pow, Nat.testBit_div_two_pow, Nat.testBit_mod_two_pow, Nat.testBit_shiftLeft]
    by_cases h2 : i ≤ 128
    · by_cases h3 : j < 64
      · by_cases h4 : i.toNat ≤ j + 64
        · have h5 : (min i 128 - 64).toNat ≤ j := by omega
          have h6 : j - (min i 128 - 64).toNat < 64 := by omega
          have h7 : j - (min i 128 - 64).toNat = j + 64 - i.toNat := by omega
          have h8 : j + 64 < 128 := by omega
          simp only [h3, h4, h5, h6, h8, decide_true, Bool.true_and]; rw [h7]
        · have h5 : ¬ (min i 128 - 64).toNat ≤ j := by omega
          simp [h3, h4, h5]
      · have h8 : ¬ j + 64 < 128 := by omega
        simp [h3, h8]
    · have h4 : j + 64 < 128 → ¬ i.toNat ≤ j + 64 := by omega
      have h5 : j < 64 → ¬ (min i 128 - 64).toNat ≤ j := by omega
      by_cases h3 : j < 64
      · simp [h5 h3, h4 (by omega)]
      · have h8 : ¬ j + 64 < 128 := by omega
        simp [h3, h8]
  · apply Nat.eq_of_testBit_eq
    intro j
    rw [e, e', Nat.zero_testBit, Nat.testBit_mod_two_pow, Nat.testBit_mod_two_pow, Nat.testBit_shiftLeft]
    by_cases h3 : j < 64
    · have : ¬ i.toNat ≤ j := by omega
      simp [this]
    · simp [h3]
  · have h9 : (64 - i).toNat = 64 - i.toNat := by omega
    apply Nat.eq_of_testBit_eq
    intro j
    rw [h9, e, e', Nat.testBit_or, Nat.testBit_mod_two_pow, Nat.testBit_shiftLeft, Nat.testBit_div_two_pow, Nat.testBit_shiftRight, Nat.testBit_mod_two_pow, Nat.testBit_div_two_pow, Nat.testBit_mod_two_pow, Nat.testBit_shiftLeft]
    by_cases h3 : j < 64
    · have h8 : j + 64 < 128 := by omega
      have h7 : i.toNat ≤ j + 64 := by omega
      by_cases h4 : i.toNat ≤ j
      · have h5 : ¬ 64 - i.toNat + j < 64 := by omega
        have h6 : j - i.toNat + 64 = j + 64 - i.toNat := by omega
        simp only [h3, h4, h5, h7, h8, decide_true, Bool.true_and, decide_false, Bool.false_and, Bool.or_false]; rw [h6]
      · have h5 : 64 - i.toNat + j < 64 := by omega
        have h6 : 64 - i.toNat + j = j + 64 - i.toNat := by omega
        simp only [h3, h4, h5, h7, h8, decide_true, Bool.true_and, decide_false, Bool.false_and, Bool.and_false, Bool.false_or]; rw [h6]
    · have h8 : ¬ j + 64 < 128 := by omega
      have h5 : ¬ 64 - i.toNat + j < 64 := by omega
      simp [h3, h8, h5]
  · apply Nat.eq_of_testBit_eq
    intro j
    rw [e, e', Nat.testBit_mod_two_pow, Nat.testBit_shiftLeft, Nat.testBit_mod_two_pow, Nat.testBit_mod_two_pow, Nat.testBit_mod_two_pow, Nat.testBit_shiftLeft]
    by_cases h3 : j < 64
    · have h8 : j < 128 := by omega
      have h5 : j - i.toNat < 64 := by omega
      simp [h3, h8, h5]
    · simp [h3]
end Go.Proofs.Ytaojebdjkpdcdaa.I
