/- Texts of the ideal machine, or of plain numbers, one behind the other: Ref1, Ref2, Ref3, Gfpow1, Gfpow2, Ref4. -/
import Derived.Test.YtggpbjhmpipplaaGreatG3
import Derived.Test.YtggpbjhmpipplaaGreatG1
import Derived.Test.YtggpbjhmpipplaaGreatG4
/- The references of layers 1 and 2: Bits, Trim, Parts, At, Words. -/
namespace Go.Proofs.YtggpbjhmpipplaaGreat.I
open Go
open Nat renaming reduceEqDiff → kn1, reduceBEq → kn2, reducePow → kn3, reduceMod → kn4, reduceAdd → kn5, reduceSub → kn6, reduceMul → kn7, reduceDiv → kn8, reduceLeDiff → kn9, reduceLT → kn0, zero_lt_one → kq1, zero_add → kq2, zero_le → kq3, le_refl → kq4
open Int renaming reduceToNat → kz1, reduceAdd → kz2, reduceSub → kz3, reduceMul → kz4, reduceDiv → kz5, reduceMod → kz6, reduceLE → kz7, reduceLT → kz8, reduceNeg → kz9, reduceEq → kz0
set_option maxRecDepth 10000
set_option linter.unusedSimpArgs false
set_option linter.unusedVariables false

/-- The parts of a polynomial. -/
def vB (n : Nat) : V := .sl (els V.z (pb n))
@[go_sem] theorem vB_eq (n : Nat) : vB n = .sl (els V.z (pb n)) := rfl
theorem pb_inj {a b : Nat} : pb a = pb b ↔ a = b := by
  constructor
  · intro h; rw [← bv_pb a, h, bv_pb]
  · rintro rfl; rfl
@[go_sem] theorem pb_inj' (a b : Nat) : (pb a = pb b) = (a = b) := propext pb_inj
@[go_sem] theorem good_pb' (a : Nat) : good (pb a) = True := eq_true (good_pb a)
@[go_sem] theorem good_bits' (k a : Nat) : good (bitsL k a) = True := eq_true (good_bitsL k a)
@[go_sem] theorem good_nil' : good [] = True := eq_true good_nil
theorem wfs_good {l : List Int} (h : good l) : wfs (els V.z l) := by
  rw [wfs_iff]
  intro x hx
  obtain ⟨y, hy, rfl⟩ := List.mem_map.1 hx
  rcases h y hy with rfl | rfl <;> simp [V.wf, i64ok]
@[go_sem] theorem wfs_pb (n : Nat) : wfs (els V.z (pb n)) = True := eq_true (wfs_good (good_pb n))
@[go_sem] theorem wfs_bits (k n : Nat) : wfs (els V.z (bitsL k n)) = True := eq_true (wfs_good (good_bitsL k n))
theorem bv_nil : bv [] = 0 := rfl
attribute [go_sem] bv_pb bv_bitsL pb_len bitsL_len bits_take bv_nil

@[go_sem] def c_ref01_Bits : Cn := fn1 (tN .u64) (fun _ => True) fun x => .sl (els V.z (bitsL 64 x))
noncomputable def cx_ref01_Bits : Cx := { T := T, E := E, cs := [], sch := [], ob := [], qs := [] }
@[go_sem] theorem cx_ref01_Bits_e : cx_ref01_Bits.gs = none ∧ cx_ref01_Bits.md = 0 ∧ cx_ref01_Bits.T = T ∧ cx_ref01_Bits.E = E ∧ cx_ref01_Bits.cs = [] ∧ ∀ d, (cx_ref01_Bits.ob).contains d = false := ⟨rfl, rfl, rfl, rfl, rfl, fun _ => rfl⟩
theorem cok_ref01_Bits : COk Tryz.prog (cx_ref01_Bits) := cok_of rfl (.nil) (.nil) (.nil)
theorem ok_ref01_Bits : Ok Tryz.prog 74 c_ref01_Bits := by
  refine ok_fn1 cok_ref01_Bits mixed Tryz.func74 rfl (by kernel_rfl) (by kernel_rfl) rfl ?_
  intro x om hw _
  simp only [go_sem, Tryz.f74, kn1, kn2, kn3, kn4, kn5, kn6, kn7, kn8, kn9, kz1, kz2, kz3, kz4, kz5, kz6, kz7, kz8, kz9, kz0, reduceCtorEq, String.reduceEq]
  refine ⟨Nat, fun k => ⟨[.n .u64 (x / 2 ^ k), .u, .u, .row 15 k k, .z k, .u, .u, .u, .u, .u, .u, .u, .u, .u, .u, .u, .u, .u, .u], [(15, ⟨1, false, els V.z (bitsL k x), false⟩)], om⟩, fun k => k ≤ 64, fun k => 64 - k, ⟨0, by omega, ?_⟩, ?_⟩
  · simp only [go_sem, kn1, kn2, kn3, kn4, kn5, kn6, kn7, kn8, kn9, kz1, kz2, kz3, kz4, kz5, kz6, kz7, kz8, kz9, kz0, reduceCtorEq, String.reduceEq, Nat.pow_zero, Nat.div_one]
    rfl
  · intro k hk
    simp only [go_sem, kn1, kn2, kn3, kn4, kn5, kn6, kn7, kn8, kn9, kz1, kz2, kz3, kz4, kz5, kz6, kz7, kz8, kz9, kz0, reduceCtorEq, String.reduceEq, bitI_mod, bits_snoc]
    refine ⟨fun h => ⟨by omega, by omega, by omega, by omega, k + 1, by omega, ⟨⟨by rw [Nat.pow_succ, Nat.div_div_eq_div_mul], rfl, by omega⟩, rfl⟩, by omega⟩, fun h => ?_⟩
    obtain rfl : k = 64 := by omega
    rfl

@[go_sem] def c_ref02_Trim : Cn := fn1 tZs (fun l => good l ∧ l.length ≤ 1099511627776) fun l => vB (bv l)
@[go_sem] def c_ref02_Parts : Cn := fn1 tU (fun xs => xs.length ≤ 4294967296) fun xs => vB (pv xs)
@[go_sem] def c_ref02_At : Cn := fn2 tZs tZ (fun l _ => good l) fun l i => .z (tb (bv l) i)
theorem take_snoc_getD {α : Type} {xs : List α} {k : Nat} (hk : k < xs.length) (d : α) : xs.take (k + 1) = xs.take k ++ [xs.getD k d] := by
  rw [List.take_succ_eq_append_getElem hk]; simp [List.getD, hk]

@[go_sem] def c_ref02_Words : Cn := fn2 tU tU (fun _ _ => True) fun xs ys => .b (decide (xs = ys))
noncomputable def cx_ref02_Words : Cx := { T := T, E := E, cs := [], sch := [(6, false, .take 0 (.take 1 (.take 2 (.take 3 (.take 4 (.take 5 (.take 6 (.take 7 (.take 8 (.done))))))))))], ob := [], qs := [] }
@[go_sem] theorem cx_ref02_Words_e : cx_ref02_Words.gs = none ∧ cx_ref02_Words.md = 0 ∧ cx_ref02_Words.T = T ∧ cx_ref02_Words.E = E ∧ cx_ref02_Words.cs = [] ∧ cx_ref02_Words.sch = [(6, false, .take 0 (.take 1 (.take 2 (.take 3 (.take 4 (.take 5 (.take 6 (.take 7 (.take 8 (.done))))))))))] ∧ ∀ d, (cx_ref02_Words.ob).contains d = false := ⟨rfl, rfl, rfl, rfl, rfl, rfl, fun _ => rfl⟩
theorem cok_ref02_Words : COk Tryz.prog (cx_ref02_Words) := cok_of rfl (.nil) (.nil) (.nil)
theorem ok_ref02_Words : Ok Tryz.prog 21 c_ref02_Words := by
  refine ok_fn2 cok_ref02_Words mixed Tryz.func21 rfl (by kernel_rfl) (by kernel_rfl) rfl ?_
  intro xs ys om hw _
  have hxl := (wf_u ⟨hw.1, trivial⟩).1
  rw [longest_eq] at hxl
  simp only [go_sem, Tryz.f21, kn1, kn2, kn3, kn4, kn5, kn6, kn7, kn8, kn9, kz1, kz2, kz3, kz4, kz5, kz6, kz7, kz8, kz9, kz0, reduceCtorEq, String.reduceEq]
  refine ⟨fun hl => ?_, fun hl => ?_⟩
  · refine ⟨Nat, fun k => ⟨[.sl (els (V.n .u64) xs), .sl (els (V.n .u64) ys), .u, .u, .u, .z k, .u, .u, .u, .u, .u, .u, .u, .u, .u, .u, .u, .u, .u, .u, .u, .u, .u, .u, .u, .u], [], om⟩, fun k => k ≤ xs.length ∧ xs.take k = ys.take k, fun k => xs.length - k, ⟨0, ⟨by omega, rfl⟩, ?_⟩, ?_⟩
    · simp only [go_sem, kn1, kn2, kn3, kn4, kn5, kn6, kn7, kn8, kn9, kz1, kz2, kz3, kz4, kz5, kz6, kz7, kz8, kz9, kz0, reduceCtorEq, String.reduceEq]
    · rintro k ⟨hk, ht⟩
      simp only [go_sem, kn1, kn2, kn3, kn4, kn5, kn6, kn7, kn8, kn9, kz1, kz2, kz3, kz4, kz5, kz6, kz7, kz8, kz9, kz0, reduceCtorEq, String.reduceEq]
      refine ⟨fun h => ⟨by omega, by omega, fun e => ⟨by omega, k + 1, ⟨by omega, ?_⟩, by omega, by omega⟩, fun e => ?_⟩, fun h => ?_⟩
      · rw [take_snoc_getD (by omega) 0, take_snoc_getD (show k < ys.length by omega) 0, ht, e]
      · rw [eq_comm, decide_eq_false_iff_not]; rintro rfl; exact e rfl
      · rw [eq_comm, decide_eq_true_iff]
        rwa [List.take_of_length_le (by omega), List.take_of_length_le (by omega)] at ht
  · rw [eq_comm, decide_eq_false_iff_not]; rintro rfl; exact hl rfl
end Go.Proofs.YtggpbjhmpipplaaGreat.I
/- The references of layers 1 and 2: Word, Of, Add, Up, Mul. -/
namespace Go.Proofs.YtggpbjhmpipplaaGreat.I
open Go
open Nat renaming reduceEqDiff → kn1, reduceBEq → kn2, reducePow → kn3, reduceMod → kn4, reduceAdd → kn5, reduceSub → kn6, reduceMul → kn7, reduceDiv → kn8, reduceLeDiff → kn9, reduceLT → kn0, zero_lt_one → kq1, zero_add → kq2, zero_le → kq3, le_refl → kq4
open Int renaming reduceToNat → kz1, reduceAdd → kz2, reduceSub → kz3, reduceMul → kz4, reduceDiv → kz5, reduceMod → kz6, reduceLE → kz7, reduceLT → kz8, reduceNeg → kz9, reduceEq → kz0
set_option maxRecDepth 10000
set_option linter.unusedSimpArgs false
set_option linter.unusedVariables false

theorem shr_low (n m k : Nat) : n >>> m % 2 ^ (k + 1) = 2 * (n >>> (m + 1) % 2 ^ k) + (if n.testBit m then 1 else 0) := by
  rw [Nat.shiftRight_succ, Nat.pow_succ, Nat.mul_comm (2 ^ k) 2, Nat.mod_mul]
  have : n >>> m % 2 = if n.testBit m then 1 else 0 := by rw [← shr_and, Nat.and_one_is_mod]
  omega

@[go_sem] def c_ref01_Word : Cn := fn2 tZs tZ (fun l i => good l ∧ 0 ≤ i ∧ i ≤ 1099511627776) fun l i => .n .u64 (bv l >>> i.toNat % 18446744073709551616)
noncomputable def cx_ref01_Word : Cx := { T := T, E := E, cs := [], sch := [], ob := [], qs := [] }
@[go_sem] theorem cx_ref01_Word_e : cx_ref01_Word.gs = none ∧ cx_ref01_Word.md = 0 ∧ cx_ref01_Word.T = T ∧ cx_ref01_Word.E = E ∧ cx_ref01_Word.cs = [] ∧ ∀ d, (cx_ref01_Word.ob).contains d = false := ⟨rfl, rfl, rfl, rfl, rfl, fun _ => rfl⟩
theorem cok_ref01_Word : COk Tryz.prog (cx_ref01_Word) := cok_of rfl (.nil) (.nil) (.nil)
theorem ok_ref01_Word : Ok Tryz.prog 81 c_ref01_Word := by
  refine ok_fn2 cok_ref01_Word mixed Tryz.func81 rfl (by kernel_rfl) (by kernel_rfl) rfl ?_
  intro l i om hw ⟨hg, h0, hi⟩
  obtain ⟨f, rfl⟩ := Int.eq_ofNat_of_zero_le h0
  simp only [go_sem, Tryz.f81, kn1, kn2, kn3, kn4, kn5, kn6, kn7, kn8, kn9, kz1, kz2, kz3, kz4, kz5, kz6, kz7, kz8, kz9, kz0, reduceCtorEq, String.reduceEq]
  refine ⟨Nat, fun k => ⟨[.sl (els V.z l), .z f, .u, .u, .u, .n .u64 (bv l >>> (f + k) % 2 ^ (64 - k)), .z ((k : Int) - 1), .u, .u, .u, .u, .u, .u, .u, .u, .u, .u, .u, .u, .u, .u, .u, .u, .u, .u, .u, .u, .u, .u], [], om⟩, fun k => k ≤ 64, fun k => k, ⟨64, by omega, ?_⟩, ?_⟩
  · simp only [go_sem, kn1, kn2, kn3, kn4, kn5, kn6, kn7, kn8, kn9, kz1, kz2, kz3, kz4, kz5, kz6, kz7, kz8, kz9, kz0, reduceCtorEq, String.reduceEq, Nat.mod_one]
  · intro k hk
    simp only [go_sem, kn1, kn2, kn3, kn4, kn5, kn6, kn7, kn8, kn9, kz1, kz2, kz3, kz4, kz5, kz6, kz7, kz8, kz9, kz0, reduceCtorEq, String.reduceEq]
    have e : 0 < k → ((f : Int) + ((k : Int) - 1)).toNat = f + (k - 1) := fun h => by omega
    have lt : bv l >>> (f + k) % 2 ^ (64 - k) < 2 ^ (64 - k) := Nat.mod_lt _ (Nat.pow_pos (by omega))
    have step : 0 < k → bv l >>> (f + (k - 1)) % 2 ^ (64 - (k - 1)) = 2 * (bv l >>> (f + k) % 2 ^ (64 - k)) + (if (bv l).testBit (f + (k - 1)) then 1 else 0) := fun h => by
      have := shr_low (bv l) (f + (k - 1)) (64 - k)
      rw [show f + (k - 1) + 1 = f + k by omega, show 64 - k + 1 = 64 - (k - 1) by omega] at this
      exact this
    have p2 : 0 < k → 2 * 2 ^ (64 - k) ≤ 18446744073709551616 := fun h => by
      rw [← Nat.pow_succ', show (18446744073709551616 : Nat) = 2 ^ 64 by rfl]
      exact Nat.pow_le_pow_right (by omega) (by omega)
    refine ⟨fun h => ⟨by omega, fun h1 => ⟨by omega, by omega, by omega, k - 1, by omega, ⟨?_, by omega⟩, by omega⟩, fun h1 => ⟨by omega, k - 1, by omega, ⟨?_, by omega⟩, by omega⟩⟩, fun h => ?_⟩
    · rw [e (by omega), step (by omega), getD_bv hg]
      unfold bitI
      have := p2 (by omega)
      cases (bv l).testBit (f + (k - 1))
      · simp; omega
      · simp; omega
    · rw [step (by omega)]
      have : (bv l).testBit (f + (k - 1)) = false := testBit_bl (by have := bl_bv l; omega)
      have := p2 (by omega)
      simp [*]; omega
    · obtain rfl : k = 0 := by omega
      rfl

@[go_sem] def c_ref02_Of : Cn := fn1 tZs (fun l => good l ∧ l.length ≤ 1099511627) fun l => vP (bv l)
@[go_sem] def c_ref02_Add : Cn := fn2 tZs tZs (fun l m => good l ∧ good m ∧ l.length ≤ 1099511627 ∧ m.length ≤ 1099511627) fun l m => vB (bv l ^^^ bv m)
@[go_sem] def c_ref02_Up : Cn := fn2 tZs tZ (fun l n => good l ∧ l.length ≤ 1099511627 ∧ n ≤ 1099511627) fun l n => vB (bv l <<< n.toNat)
@[go_sem] def c_ref02_Mul : Cn := fn2 tZs tZs (fun l m => good l ∧ good m ∧ l.length ≤ 1099511627 ∧ m.length ≤ 1099511627) fun l m => vB (cm (bv l) (bv m))
end Go.Proofs.YtggpbjhmpipplaaGreat.I
/- The references of layer 3: Div, Mod, Gcd, Inverse. -/
namespace Go.Proofs.YtggpbjhmpipplaaGreat.I
open Go
open Nat renaming reduceEqDiff → kn1, reduceBEq → kn2, reducePow → kn3, reduceMod → kn4, reduceAdd → kn5, reduceSub → kn6, reduceMul → kn7, reduceDiv → kn8, reduceLeDiff → kn9, reduceLT → kn0, zero_lt_one → kq1, zero_add → kq2, zero_le → kq3, le_refl → kq4
open Int renaming reduceToNat → kz1, reduceAdd → kz2, reduceSub → kz3, reduceMul → kz4, reduceDiv → kz5, reduceMod → kz6, reduceLE → kz7, reduceLT → kz8, reduceNeg → kz9, reduceEq → kz0
set_option maxRecDepth 10000
set_option linter.unusedSimpArgs false
set_option linter.unusedVariables false

theorem pb_zero : pb 0 = [] := rfl
/-- Parts in their own form. -/
noncomputable def tQ : Ty Nat := Ty.by vB fun a b h => by
  rw [vB_eq, vB_eq] at h; injection h with h
  rwa [els_inj, pb_inj'] at h
@[go_sem] theorem tQ_enc (n : Nat) : tQ.enc n = .sl (els V.z (pb n)) := rfl
@[go_sem] theorem tQ_dec (n : Nat) : tQ.dec (.sl (els V.z (pb n))) = some n := tQ.h1 n
@[go_sem] theorem tQ_dec0 : tQ.dec (.sl []) = some 0 := tQ.h1 0
@[go_sem] theorem tQ_dec1 : tQ.dec (.sl [.z 1]) = some 1 := tQ.h1 1
@[go_sem] theorem tQ_dec2 : tQ.dec (.sl [.z 0, .z 1]) = some 2 := tQ.h1 2
theorem pb_lit1 : pb 1 = [1] := rfl

theorem bits_put1 {n m i : Nat} (hi : i < n) (h : m.testBit i = false) : (bitsL n m).set i 1 = bitsL n (m ^^^ 2 ^ i) := by
  have e : bitI (m ^^^ 2 ^ i) i = 1 := bitI_eq_one.2 (by rw [Nat.testBit_xor, Nat.testBit_two_pow_self, h]; rfl)
  rw [← e]
  refine bits_set _ _ _ _ hi fun k hk => ?_
  rw [Nat.testBit_xor, Nat.testBit_two_pow]
  have : ¬ i = k := fun h => hk h.symm
  simp [this]

@[go_sem] noncomputable def c_ref03_Div : Cn := fn2 tQ tQ (fun a b => b ≠ 0 ∧ bl a ≤ 1000000 ∧ bl b ≤ 1000000) fun a b => .tup [vB (qd a b), vB (rm a b)]
@[go_sem] noncomputable def c_ref03_Mod : Cn := fn2 tQ tQ (fun a b => b ≠ 0 ∧ bl a ≤ 1000000 ∧ bl b ≤ 1000000) fun a b => vB (rm a b)
@[go_sem] noncomputable def c_ref03_Gcd : Cn := fn2 tQ tQ (fun a b => bl a ≤ 1000000 ∧ bl b ≤ 1000000) fun a b => vB (gd a b)
theorem gd_rm (a : Nat) {p : Nat} (hp : p ≠ 0) : gd p (rm a p) = gd a p := by
  have e : rm a p = a ^^^ cm (qd a p) p := by
    have := (qr_spec a hp).1
    rw [Nat.xor_comm] at this; exact xor_eq.1 this.symm
  refine dv_antisymm (dv_gd ?_ (gd_dv_left _ _)) (dv_gd (gd_dv_right _ _) ?_)
  · have h1 := gd_dv_left p (rm a p)
    have h2 := gd_dv_right p (rm a p)
    have := dv_xor h2 (dv_mul h1 (qd a p))
    conv at this => rhs; rw [e]
    rwa [xor_cancel'] at this
  · rw [e]; exact dv_xor (gd_dv_left a p) (dv_mul (gd_dv_right a p) _)

@[go_sem] noncomputable def c_ref03_Inverse : Cn := fn2j tQ tQ (fun a p => bl a ≤ 200000 ∧ bl p ≤ 200000) (fun _ p => p = 0) (fun a p => gd a p = 1) (fun _ _ => .tup [vB 0, .z 8]) (fun a p => .tup [vB (iv a p), .z 0]) (fun _ _ => .tup [vB 0, .z 1])
end Go.Proofs.YtggpbjhmpipplaaGreat.I
/- gfpow: Rounds, bits, square, Pow, X, Squares. -/
namespace Go.Proofs.YtggpbjhmpipplaaGreat.I
open Go
open Nat renaming reduceEqDiff → kn1, reduceBEq → kn2, reducePow → kn3, reduceMod → kn4, reduceAdd → kn5, reduceSub → kn6, reduceMul → kn7, reduceDiv → kn8, reduceLeDiff → kn9, reduceLT → kn0, zero_lt_one → kq1, zero_add → kq2, zero_le → kq3, le_refl → kq4
open Int renaming reduceToNat → kz1, reduceAdd → kz2, reduceSub → kz3, reduceMul → kz4, reduceDiv → kz5, reduceMod → kz6, reduceLE → kz7, reduceLT → kz8, reduceNeg → kz9, reduceEq → kz0
set_option maxRecDepth 10000
set_option linter.unusedSimpArgs false
set_option linter.unusedVariables false

@[go_sem] noncomputable def c_gfpow_Rounds : Cn := fn1 tW (fun _ => True) fun x => .z (bl x)
noncomputable def cx_gfpow_Rounds : Cx := { T := T, E := E, cs := [(163, c_wide_Len)], sch := [], ob := [], qs := [163] }
@[go_sem] theorem cx_gfpow_Rounds_e : cx_gfpow_Rounds.gs = none ∧ cx_gfpow_Rounds.md = 0 ∧ cx_gfpow_Rounds.T = T ∧ cx_gfpow_Rounds.E = E ∧ cx_gfpow_Rounds.cs = [(163, c_wide_Len)] ∧ ∀ d, (cx_gfpow_Rounds.ob).contains d = false := ⟨rfl, rfl, rfl, rfl, rfl, fun _ => rfl⟩
theorem cok_gfpow_Rounds : COk Tryz.prog (cx_gfpow_Rounds) := cok_of rfl (.cons ok_wide_Len (.nil)) (.cons (fun _ => fn1_quiet) (.nil)) (.nil)
theorem ok_gfpow_Rounds : Ok Tryz.prog 156 c_gfpow_Rounds := by
  refine ok_fn1 cok_gfpow_Rounds mixed Tryz.func156 rfl (by kernel_rfl) (by kernel_rfl) rfl ?_
  intro x om hw _
  simp only [go_sem, Tryz.f156, kn1, kn2, kn3, kn4, kn5, kn6, kn7, kn8, kn9, kz1, kz2, kz3, kz4, kz5, kz6, kz7, kz8, kz9, kz0, reduceCtorEq, String.reduceEq]
  exact Nat.zero_lt_one

@[go_sem] def c_gfpow_square : Cn := fn2 tU tU (fun xs ps => xs.length ≤ 262144 ∧ ps.length ≤ 1048576 ∧ pv ps ≠ 0) fun xs ps => vP (rm (cm (pv xs) (pv xs)) (pv ps))
noncomputable def cx_gfpow_square : Cx := { T := T, E := E, cs := [(146, c_gfdiv_Mod), (158, c_gfp_Square)], sch := [], ob := [], qs := [146, 158] }
@[go_sem] theorem cx_gfpow_square_e : cx_gfpow_square.gs = none ∧ cx_gfpow_square.md = 0 ∧ cx_gfpow_square.T = T ∧ cx_gfpow_square.E = E ∧ cx_gfpow_square.cs = [(146, c_gfdiv_Mod), (158, c_gfp_Square)] ∧ ∀ d, (cx_gfpow_square.ob).contains d = false := ⟨rfl, rfl, rfl, rfl, rfl, fun _ => rfl⟩
theorem cok_gfpow_square : COk Tryz.prog (cx_gfpow_square) := cok_of rfl (.cons ok_gfdiv_Mod (.cons ok_gfp_Square (.nil))) (.cons (fun _ => fn2i_quiet) (.cons (fun _ => fn1_quiet) (.nil))) (.nil)
theorem ok_gfpow_square : Ok Tryz.prog 148 c_gfpow_square := by
  refine ok_fn2 cok_gfpow_square mixed Tryz.func148 rfl (by kernel_rfl) (by kernel_rfl) rfl ?_
  intro xs ps om hw ⟨h1, h2, h3⟩
  have b1 := bl_pv (wf_u ⟨hw.1, trivial⟩).2
  have b2 := bl_cm_le (pv xs) (pv xs)
  simp only [go_sem, Tryz.f148, kn1, kn2, kn3, kn4, kn5, kn6, kn7, kn8, kn9, kz1, kz2, kz3, kz4, kz5, kz6, kz7, kz8, kz9, kz0, reduceCtorEq, String.reduceEq, h3]
  exact ⟨by omega, fun _ => by omega⟩

/-- The bits of a number, from the highest one on: what is told of each, and what is so then. -/
def goB (cy : Cn) (id : Nat) (cs : List V) (n : Nat) : Nat → Om → (V → Om → Prop) → Prop
  | 0, om, K => K (.tup []) om
  | i + 1, om, K => om id = some cs ∧ @cy [.z (tb n i)] om ⟨fun r om' => r = .b true ∧ goB cy id cs n i om' K⟩
theorem tW_agg {cs : List V} {n : Nat} (h : tW.dec (.agg cs) = some n) : cs = [.n .u64 (n / 18446744073709551616), .n .u64 (n % 18446744073709551616)] := by
  have := tW.h2 _ _ h
  rw [tW_enc] at this
  injection this

noncomputable def rc_gfpow_bits_1 (cy : Cn) : Cn
  | [.obj id 0], om, K => @so _ (om id) ⟨fun cs => @so _ (tW.dec (.agg cs)) ⟨fun n => n < 340282366920938463463374607431768211456 ∧ goB cy id cs n (bl n) om K.k⟩⟩
  | _, _, _ => False
noncomputable def cx_gfpow_bits_1 (l : Nat) (cy : Cn) : Cx := { T := T, E := E, cs := [(156, c_gfpow_Rounds), (157, c_wide_Bit)], sch := [], ob := [], qs := [156, 157], y := some (l, cy) }
@[go_sem] theorem cx_gfpow_bits_1_e (l : Nat) (cy : Cn) : (cx_gfpow_bits_1 l cy).gs = none ∧ (cx_gfpow_bits_1 l cy).md = 0 ∧ (cx_gfpow_bits_1 l cy).T = T ∧ (cx_gfpow_bits_1 l cy).E = E ∧ (cx_gfpow_bits_1 l cy).cs = [(156, c_gfpow_Rounds), (157, c_wide_Bit)] ∧ (cx_gfpow_bits_1 l cy).y = some (l, cy) ∧ ∀ d, ((cx_gfpow_bits_1 l cy).ob).contains d = false := ⟨rfl, rfl, rfl, rfl, rfl, rfl, fun _ => rfl⟩
theorem cok_gfpow_bits_1 (l : Nat) (cy : Cn) : COk Tryz.prog (cx_gfpow_bits_1 l cy) := cok_of rfl (.cons ok_gfpow_Rounds (.cons ok_wide_Bit (.nil))) (.cons (fun _ => fn1_quiet) (.cons (fun _ => fn2_quiet) (.nil))) (.nil)
theorem okR_gfpow_bits_1 : OkR Tryz.prog 155 rc_gfpow_bits_1 := by
  refine okR_of_body cok_gfpow_bits_1 mixed Tryz.func155 rfl (by kernel_rfl) (fun _ _ => by kernel_rfl) (fun _ _ => rfl) fun l cy caps om Q hm hw h => ?_
  unfold rc_gfpow_bits_1 at h
  split at h <;> first | exact h.elim | skip
  rename_i om _ _ _ id
  replace h := so_inv h; obtain ⟨cs, hcs, h⟩ := h
  replace h := so_inv h; obtain ⟨n, hn, h⟩ := h
  obtain rfl := tW_agg hn
  obtain ⟨hn128, h⟩ := h
  have hb : bl n ≤ 128 := bl_lt.2 hn128
  simp only [go_sem, Tryz.f155, kn1, kn2, kn3, kn4, kn5, kn6, kn7, kn8, kn9, kz1, kz2, kz3, kz4, kz5, kz6, kz7, kz8, kz9, kz0, reduceCtorEq, String.reduceEq, hcs]
  intro _
  refine ⟨by omega, Nat × Om, fun x => ⟨[.fn (Fn.yield l) [] [], .obj id 0, .u, .z ((x.1 : Int) - 1), .u, .u, .u, .u, .u, .u, .u, .u, .u, .u, .u, .u, .u], [], x.2⟩, fun x => x.1 ≤ bl n ∧ goB cy id [.n .u64 (n / 18446744073709551616), .n .u64 (n % 18446744073709551616)] n x.1 x.2 Q, fun x => x.1, ⟨(bl n, om), ⟨Nat.le_refl _, h⟩, ?_⟩, ?_⟩
  · simp only [go_sem, kn1, kn2, kn3, kn4, kn5, kn6, kn7, kn8, kn9, kz1, kz2, kz3, kz4, kz5, kz6, kz7, kz8, kz9, kz0, reduceCtorEq, String.reduceEq]
  · rintro ⟨i, om⟩ ⟨h1, h⟩
    simp only at h1 h
    cases i with
    | zero =>
      simp only [go_sem, kn1, kn2, kn3, kn4, kn5, kn6, kn7, kn8, kn9, kz1, kz2, kz3, kz4, kz5, kz6, kz7, kz8, kz9, kz0, reduceCtorEq, String.reduceEq]
      exact ⟨om, .refl _, h⟩
    | succ i =>
      obtain ⟨h2, h3⟩ := h
      simp only [go_sem, kn1, kn2, kn3, kn4, kn5, kn6, kn7, kn8, kn9, kz1, kz2, kz3, kz4, kz5, kz6, kz7, kz8, kz9, kz0, reduceCtorEq, String.reduceEq, h2]
      refine ⟨fun _ _ => ?_, fun h => absurd (show (0 : Int) ≤ ((i + 1 : Nat) : Int) - 1 by omega) h⟩
      rw [show ((i + 1 : Nat) : Int) - 1 = i by omega]
      refine hm _ _ _ _ (fun r om' hr => ?_) h3
      obtain ⟨rfl, hr⟩ := hr
      simp only [go_sem, kn1, kn2, kn3, kn4, kn5, kn6, kn7, kn8, kn9, kz1, kz2, kz3, kz4, kz5, kz6, kz7, kz8, kz9, kz0, reduceCtorEq, String.reduceEq]
      exact ⟨by omega, (i, om'), ⟨by show i ≤ _; omega, hr⟩, ⟨rfl, .refl _⟩, Nat.lt_succ_self _⟩

noncomputable def c_gfpow_bits : Cn
  | [a], om, K => @so _ (tW.dec a) ⟨fun n => ∀ id, om id = none → K.k (.fn (.func 155) [] [.obj id 0]) (om.put id [.n .u64 (n / 18446744073709551616), .n .u64 (n % 18446744073709551616)])⟩
  | _, _, _ => False
attribute [go_sem] c_gfpow_bits.eq_1
theorem c_gfpow_bits_mono : Mono c_gfpow_bits := by
  intro args om K K' hK h
  unfold c_gfpow_bits at h ⊢
  split at h
  · exact mono_so (fun x h id hid => hK _ _ (h id hid)) h
  · exact h.elim
theorem quiet_gfpow_bits : Quiet c_gfpow_bits := by
  intro args om K h
  unfold c_gfpow_bits at h ⊢
  split at h
  · exact mono_so (fun x h id hid => ⟨.put hid (.refl _), h id hid⟩) h
  · exact h.elim
noncomputable def cx_gfpow_bits : Cx := { T := T, E := E, cs := [], sch := [], ob := [1], qs := [] }
@[go_sem] theorem cx_gfpow_bits_e : cx_gfpow_bits.gs = none ∧ cx_gfpow_bits.md = 0 ∧ cx_gfpow_bits.T = T ∧ cx_gfpow_bits.E = E ∧ cx_gfpow_bits.cs = [] ∧ cx_gfpow_bits.ob = [1] := ⟨rfl, rfl, rfl, rfl, rfl, rfl⟩
theorem cok_gfpow_bits : COk Tryz.prog (cx_gfpow_bits) := cok_of rfl (.nil) (.nil) (.nil)
theorem ok_gfpow_bits : Ok Tryz.prog 147 c_gfpow_bits := by
  refine ok_of_body1 cok_gfpow_bits mixed Tryz.func147 rfl (by kernel_rfl) (by kernel_rfl) c_gfpow_bits_mono fun args om Q hw h => ?_
  unfold c_gfpow_bits at h
  split at h <;> first | exact h.elim | skip
  rename_i om _ _ _ a
  replace h := so_inv h; obtain ⟨n, hn, h⟩ := h
  obtain rfl := tW.h2 _ _ hn
  simp only [go_sem, Tryz.f147, kn1, kn2, kn3, kn4, kn5, kn6, kn7, kn8, kn9, kz1, kz2, kz3, kz4, kz5, kz6, kz7, kz8, kz9, kz0, reduceCtorEq, String.reduceEq]
  exact h

/-! ### Pow -/
def pstep (r a p : Nat) (b : Int) : Nat := if b = 1 then rm (cm (rm (cm r r) p) a) p else rm (cm r r) p
/-- What a round of Pow does. -/
noncomputable def powCy (a : Nat) (ps : List Nat) (ia io ip : Nat) : Cn
  | [.z b], om, K => (b = 0 ∨ b = 1) ∧ om ia = some [vP (rm a (pv ps))] ∧ om ip = some [.sl (els (V.n .u64) ps)] ∧ ∃ r, bl r < bl (pv ps) ∧ om io = some [vP r] ∧ K.k (.b true) (om.put io [vP (pstep r (rm a (pv ps)) (pv ps) b)])
  | _, _, _ => False
theorem powCy_mono (a : Nat) (ps : List Nat) (ia io ip : Nat) : Mono (powCy a ps ia io ip) := by
  intro args om K K' hK h
  unfold powCy at h ⊢
  split at h
  · obtain ⟨h1, h2, h3, r, h4, h5, h6⟩ := h
    exact ⟨h1, h2, h3, r, h4, h5, hK _ _ h6⟩
  · exact h.elim
theorem powCy_inv {a : Nat} {ps : List Nat} {ia io ip : Nat} {args : List V} {om : Om} {K : V → Om → Prop} (h : @powCy a ps ia io ip args om ⟨K⟩) : ∃ b, args = [.z b] ∧ (b = 0 ∨ b = 1) ∧ om ia = some [vP (rm a (pv ps))] ∧ om ip = some [.sl (els (V.n .u64) ps)] ∧ ∃ r, bl r < bl (pv ps) ∧ om io = some [vP r] ∧ K (.b true) (om.put io [vP (pstep r (rm a (pv ps)) (pv ps) b)]) := by
  unfold powCy at h
  split at h
  · exact ⟨_, rfl, h⟩
  · exact h.elim
theorem put_same {om : Om} {i : Nat} {a : List V} (h : om i = some a) : om.put i a = om := by
  funext k; unfold Om.put; by_cases e : k = i
  · subst e; simp [h]
  · simp [e]
theorem put_get (om : Om) (i : Nat) (a : List V) : (om.put i a) i = some a := by unfold Om.put; simp
theorem put_other (om : Om) {i j : Nat} (a : List V) (h : j ≠ i) : (om.put i a) j = om j := by unfold Om.put; simp [h]
theorem tb01 (n : Nat) (i : Int) : tb n i = 0 ∨ tb n i = 1 := by unfold tb; split <;> simp
theorem pwr_step (a : Nat) {p : Nat} (hp : p ≠ 0) (n i : Nat) : pwr a p (n >>> i) = pstep (pwr a p (n >>> (i + 1))) (rm a p) p (tb n i) := by
  rw [pwr_bit a hp]
  unfold pstep tb
  rw [Int.toNat_natCast]
  by_cases h : n.testBit i = true
  · rw [if_pos h, if_pos (by simp [h])]
  · rw [if_neg h, if_neg (by simp [h])]
theorem goB_pow {a : Nat} {ps : List Nat} (hp : pv ps ≠ 0) {ia io ip id : Nat} (h1 : ia ≠ io) (h2 : ip ≠ io) (h3 : id ≠ io) {om : Om} (e1 : om ia = some [vP (rm a (pv ps))]) (e2 : om ip = some [.sl (els (V.n .u64) ps)]) {cs : List V} (e3 : om id = some cs) {n : Nat} {K : V → Om → Prop}
    (hK : K (.tup []) (om.put io [vP (pwr a (pv ps) n)])) : ∀ i, goB (powCy a ps ia io ip) id cs n i (om.put io [vP (pwr a (pv ps) (n >>> i))]) K
  | 0 => hK
  | i + 1 => by
    refine ⟨by rw [put_other _ _ h3]; exact e3, ?_⟩
    refine ⟨tb01 _ _, by rw [put_other _ _ h1]; exact e1, by rw [put_other _ _ h2]; exact e2, _, pwr_lt a hp _, put_get _ _ _, ?_⟩
    show V.b true = V.b true ∧ _
    rw [om_put_put, ← pwr_step a hp]
    exact ⟨rfl, goB_pow hp h1 h2 h3 e1 e2 e3 hK i⟩

theorem new_iff {x : Option (List V)} {i j : Nat} {cs : List V} : ((if j = i then some cs else x) = none) = (¬ j = i ∧ ¬ i = j ∧ x = none) := by
  apply propext
  by_cases h : j = i
  · simp [h]
  · simp [h, Ne.symm h]
theorem rangeR_intro {cx : Cx} {st : St} {f : FuncId} {caps : List V} {ps : List Tmp} {A : C2 St (C2 Ex St)} {R : C2 St (C2 Ex St)} {Q : C2 Ex St} {rc : Cn → Cn} (h0 : cleans caps = true) (hl : lkR cx.rs f = some rc) (cy : Cn)
    (h1 : ∀ args om K, wfs args → @cy args om ⟨K⟩ → args.length = ps.length ∧
        A.k ⟨fillIn (st.env.map clear1) ps args, [], om⟩ ⟨fun | .nrm, st => R.k ⟨st.env.map clear1, [], st.om⟩ ⟨fun | .nrm, st => ∃ om', OmKept om' st.om ∧ K (.b true) om' | _, _ => False⟩ | _, _ => False⟩)
    (hm : Mono cy) (h3 : @rc cy caps st.om ⟨fun _ om => Q.k .nrm ⟨st.env.map clear1, [], om⟩⟩) : @rangeR cx st (.fn (.func f) [] caps) ps A R Q := by
  unfold rangeR
  refine ⟨h0, ?_⟩
  rw [hl]
  exact ⟨cy, h1, hm, h3⟩
theorem upP_zero (m : Nat) : upP m 0 = m := by simp [upP]
theorem upP_one (m : Nat) : upP m 1 = m <<< 1 := by simp [upP]

@[go_sem] noncomputable def c_gfpow_Pow : Cn := fn3i tU tW tU (fun xs n ps => xs.length ≤ 1048576 ∧ ps.length ≤ 262144) (fun _ _ ps => pv ps = 0) (fun _ _ _ => .tup [vP 0, .z 8]) fun xs n ps => .tup [vP (pwr (pv xs) (pv ps) n), .z 0]
noncomputable def cx_gfpow_Pow : Cx := { T := T, E := E, cs := [(142, c_gfp_X), (146, c_gfdiv_Mod), (147, c_gfpow_bits), (148, c_gfpow_square), (149, c_gfdiv_MulMod)], sch := [(4, false, .take 1 (.alt 0 (.alt 2 (.take 3 (.take 4 (.take 5 (.alt 6 (.alt 7 (.take 8 (.done)) .no) .no)))) (.alt 6 (.alt 2 (.take 3 (.take 4 (.take 5 (.alt 7 (.take 8 (.done)) .no)))) .no) (.no))) (.alt 6 (.alt 0 (.alt 2 (.take 3 (.take 4 (.take 5 (.alt 7 (.take 8 (.done)) .no)))) .no) .no) (.no))))], ob := [3,5,9], qs := [142, 146, 147, 148, 149], rs := [(155, rc_gfpow_bits_1)] }
@[go_sem] theorem cx_gfpow_Pow_e : cx_gfpow_Pow.gs = none ∧ cx_gfpow_Pow.md = 0 ∧ cx_gfpow_Pow.T = T ∧ cx_gfpow_Pow.E = E ∧ cx_gfpow_Pow.cs = [(142, c_gfp_X), (146, c_gfdiv_Mod), (147, c_gfpow_bits), (148, c_gfpow_square), (149, c_gfdiv_MulMod)] ∧ cx_gfpow_Pow.rs = [(155, rc_gfpow_bits_1)] ∧ cx_gfpow_Pow.sch = [(4, false, .take 1 (.alt 0 (.alt 2 (.take 3 (.take 4 (.take 5 (.alt 6 (.alt 7 (.take 8 (.done)) .no) .no)))) (.alt 6 (.alt 2 (.take 3 (.take 4 (.take 5 (.alt 7 (.take 8 (.done)) .no)))) .no) (.no))) (.alt 6 (.alt 0 (.alt 2 (.take 3 (.take 4 (.take 5 (.alt 7 (.take 8 (.done)) .no)))) .no) .no) (.no))))] ∧ cx_gfpow_Pow.ob = [3,5,9] := ⟨rfl, rfl, rfl, rfl, rfl, rfl, rfl, rfl⟩
theorem cok_gfpow_Pow : COk Tryz.prog (cx_gfpow_Pow) := cok_of rfl (.cons ok_gfp_X (.cons ok_gfdiv_Mod (.cons ok_gfpow_bits (.cons ok_gfpow_square (.cons ok_gfdiv_MulMod (.nil)))))) (.cons (fun _ => fn1_quiet) (.cons (fun _ => fn2i_quiet) (.cons (fun _ => quiet_gfpow_bits) (.cons (fun _ => fn2_quiet) (.cons (fun _ => fn3i_quiet) (.nil)))))) (.cons okR_gfpow_bits_1 (.nil))
set_option maxHeartbeats 4000000 in
theorem ok_gfpow_Pow : Ok Tryz.prog 141 c_gfpow_Pow := by
  refine ok_fn3i cok_gfpow_Pow mixed Tryz.func141 rfl (by kernel_rfl) (by kernel_rfl) rfl ?_
  intro xs n ps om hw ⟨hl, hl'⟩
  have hx := (wf_u ⟨hw.1, trivial⟩).2
  have hy := (wf_u ⟨hw.2.2.1, trivial⟩).2
  have hn := wf_w hw.2
  have b1 := bl_pv hx
  have b2 := bl_pv hy
  by_cases hp : pv ps = 0
  · simp (config := {contextual := true}) only [go_sem, Tryz.f141, kn1, kn2, kn3, kn4, kn5, kn6, kn7, kn8, kn9, kz1, kz2, kz3, kz4, kz5, kz6, kz7, kz8, kz9, kz0, reduceCtorEq, String.reduceEq, hp, new_iff, and_imp]
    intro i0 h0 i1 h1 h2 h3
    refine ⟨by omega, ?_⟩
    exact .put h0 (.put h3 (.put h0 (.refl _)))
  · have p1 := rm_lt (pv xs) hp
    have p2 := rm_lt 1 hp
    have hb1 : bl 1 = 1 := rfl
    have g1 : ((bl (rm (pv xs) (pv ps)) + 63) / 64 ≤ 9223372036854775807) = True := eq_true (by omega)
    have g2 : ((bl 1 + 63) / 64 ≤ 9223372036854775807) = True := eq_true (by omega)
    have g3 : ((bl (rm 1 (pv ps)) + 63) / 64 ≤ 9223372036854775807) = True := eq_true (by omega)
    simp (config := {contextual := true}) only [go_sem, Tryz.f141, kn1, kn2, kn3, kn4, kn5, kn6, kn7, kn8, kn9, kz1, kz2, kz3, kz4, kz5, kz6, kz7, kz8, kz9, kz0, reduceCtorEq, String.reduceEq, hp, new_iff, and_imp, upP_zero, g1, g2, g3]
    intro i0 h0 i1 h1 h2 h3
    refine ⟨by omega, ?_⟩
    repeat' (first | with_reducible refine And.intro ?_ ?_ | with_reducible intro _)
    all_goals first | omega | skip
    all_goals
      rename_i i2 k0 k1 k2 k3 k4 i3 m0 m1 m2 m3 m4 m5 m6
      refine rangeR_intro (rc := rc_gfpow_bits_1) rfl rfl (powCy (pv xs) ps i0 i2 i1) (fun args om K ha hc => ?_) (powCy_mono _ _ _ _ _) ?_
    all_goals first
      | (
          obtain ⟨b, rfl, c0, c1, c2, r, c3, c4, c5⟩ := powCy_inv hc
          have g4 : ((bl (rm (cm r r) (pv ps)) + 63) / 64 ≤ 9223372036854775807) = True := eq_true (by have := rm_lt (cm r r) hp; omega)
          have g5 := rm_lt (cm r r) hp
          rcases c0 with rfl | rfl
          · simp only [go_sem, Tryz.f141, kn1, kn2, kn3, kn4, kn5, kn6, kn7, kn8, kn9, kz1, kz2, kz3, kz4, kz5, kz6, kz7, kz8, kz9, kz0, reduceCtorEq, String.reduceEq, hp, c1, c2, c4, g4, k0, k1, k2, k3, h1, h2]
            exact ⟨by omega, _, .refl _, c5⟩
          · simp only [go_sem, Tryz.f141, kn1, kn2, kn3, kn4, kn5, kn6, kn7, kn8, kn9, kz1, kz2, kz3, kz4, kz5, kz6, kz7, kz8, kz9, kz0, reduceCtorEq, String.reduceEq, hp, c1, c2, c4, g4, k0, k1, k2, k3, h1, h2]
            exact ⟨by omega, by omega, fun _ => ⟨_, .refl _, c5⟩⟩)
      | (
          simp only [go_sem, Tryz.f141, kn1, kn2, kn3, kn4, kn5, kn6, kn7, kn8, kn9, kz1, kz2, kz3, kz4, kz5, kz6, kz7, kz8, kz9, kz0, reduceCtorEq, String.reduceEq, rc_gfpow_bits_1.eq_1, m0, m1, m2, m3, m4, m5, m6]
          refine ⟨hn, ?_⟩
          have z : n >>> bl n = 0 := by rw [Nat.shiftRight_eq_div_pow]; exact Nat.div_eq_of_lt (bl_lt.1 (Nat.le_refl _))
          have e := fun (X : Om) (K : V → Om → Prop) (h1 : X i0 = some [vP (rm (pv xs) (pv ps))]) (h2 : X i1 = some [.sl (els (V.n .u64) ps)]) (h3 : X i3 = some [V.n IntKind.u64 (n / 18446744073709551616), V.n IntKind.u64 (n % 18446744073709551616)]) (h4 : X i2 = some [vP (rm 1 (pv ps))]) (hK : K (.tup []) (X.put i2 [vP (pwr (pv xs) (pv ps) n)])) =>
            (goB_pow (a := pv xs) (ps := ps) (ia := i0) (io := i2) (ip := i1) (id := i3) (n := n) (K := K) hp k1 k3 m0 h1 h2 h3 hK (bl n))
          rw [z] at e
          have e' := fun X K h1 h2 h3 h4 hK => (put_same h4) ▸ e X K h1 h2 h3 h4 hK
          refine e' _ _ ?_ ?_ ?_ ?_ ?_
          · simp only [go_sem, kn1, kn2, kn3, kn4, kn5, kn6, kn7, kn8, kn9, kz1, kz2, kz3, kz4, kz5, kz6, kz7, kz8, kz9, kz0, reduceCtorEq, String.reduceEq, k0, k1, k2, k3, k4, m0, m1, m2, m3, m4, m5, h1, h2]
          · simp only [go_sem, kn1, kn2, kn3, kn4, kn5, kn6, kn7, kn8, kn9, kz1, kz2, kz3, kz4, kz5, kz6, kz7, kz8, kz9, kz0, reduceCtorEq, String.reduceEq, k0, k1, k2, k3, k4, m0, m1, m2, m3, m4, m5, h1, h2]
          · simp only [go_sem, kn1, kn2, kn3, kn4, kn5, kn6, kn7, kn8, kn9, kz1, kz2, kz3, kz4, kz5, kz6, kz7, kz8, kz9, kz0, reduceCtorEq, String.reduceEq, k0, k1, k2, k3, k4, m0, m1, m2, m3, m4, m5, h1, h2]
          · simp only [go_sem, kn1, kn2, kn3, kn4, kn5, kn6, kn7, kn8, kn9, kz1, kz2, kz3, kz4, kz5, kz6, kz7, kz8, kz9, kz0, reduceCtorEq, String.reduceEq, k0, k1, k2, k3, k4, m0, m1, m2, m3, m4, m5, h1, h2]
          · simp only [go_sem, kn1, kn2, kn3, kn4, kn5, kn6, kn7, kn8, kn9, kz1, kz2, kz3, kz4, kz5, kz6, kz7, kz8, kz9, kz0, reduceCtorEq, String.reduceEq, k0, k1, k2, k3, k4, m0, m1, m2, m3, m4, m5, h1, h2]
            exact .put k4 (.put m6 (.put k4 (.put h0 (.put h3 (.put h0 (.refl _)))))))
end Go.Proofs.YtggpbjhmpipplaaGreat.I
/- gfpow: X, Squares, Irreducible. -/
namespace Go.Proofs.YtggpbjhmpipplaaGreat.I
open Go
open Nat renaming reduceEqDiff → kn1, reduceBEq → kn2, reducePow → kn3, reduceMod → kn4, reduceAdd → kn5, reduceSub → kn6, reduceMul → kn7, reduceDiv → kn8, reduceLeDiff → kn9, reduceLT → kn0, zero_lt_one → kq1, zero_add → kq2, zero_le → kq3, le_refl → kq4
open Int renaming reduceToNat → kz1, reduceAdd → kz2, reduceSub → kz3, reduceMul → kz4, reduceDiv → kz5, reduceMod → kz6, reduceLE → kz7, reduceLT → kz8, reduceNeg → kz9, reduceEq → kz0
set_option maxRecDepth 10000
set_option linter.unusedSimpArgs false
set_option linter.unusedVariables false

@[go_sem] noncomputable def c_gfpow_X : Cn := fn2i tW tU (fun _ ps => ps.length ≤ 262144) (fun _ ps => pv ps = 0) (fun _ _ => .tup [vP 0, .z 8]) fun n ps => .tup [vP (pwr 2 (pv ps) n), .z 0]
noncomputable def cx_gfpow_X : Cx := { T := T, E := E, cs := [(141, c_gfpow_Pow), (142, c_gfp_X)], sch := [(1, false, .take 1 (.take 2 (.alt 0 (.alt 3 (.take 4 (.take 5 (.take 6 (.take 7 (.done))))) .no) .no)))], ob := [], qs := [141, 142] }
@[go_sem] theorem cx_gfpow_X_e : cx_gfpow_X.gs = none ∧ cx_gfpow_X.md = 0 ∧ cx_gfpow_X.T = T ∧ cx_gfpow_X.E = E ∧ cx_gfpow_X.cs = [(141, c_gfpow_Pow), (142, c_gfp_X)] ∧ cx_gfpow_X.sch = [(1, false, .take 1 (.take 2 (.alt 0 (.alt 3 (.take 4 (.take 5 (.take 6 (.take 7 (.done))))) .no) .no)))] ∧ ∀ d, (cx_gfpow_X.ob).contains d = false := ⟨rfl, rfl, rfl, rfl, rfl, rfl, fun _ => rfl⟩
theorem cok_gfpow_X : COk Tryz.prog (cx_gfpow_X) := cok_of rfl (.cons ok_gfpow_Pow (.cons ok_gfp_X (.nil))) (.cons (fun _ => fn3i_quiet) (.cons (fun _ => fn1_quiet) (.nil))) (.nil)
theorem ok_gfpow_X : Ok Tryz.prog 136 c_gfpow_X := by
  refine ok_fn2i cok_gfpow_X mixed Tryz.func136 rfl (by kernel_rfl) (by kernel_rfl) rfl ?_
  intro n ps om hw hl
  have hy := (wf_u hw.2).2
  have hn := wf_w hw
  have b2 := bl_pv hy
  have e1 : upP 1 1 = 2 := rfl
  have b3 : bl 2 = 2 := rfl
  have g2 : ((bl 2 + 63) / 64 ≤ 9223372036854775807) = True := eq_true (by omega)
  by_cases hp : pv ps = 0
  · simp only [go_sem, Tryz.f136, kn1, kn2, kn3, kn4, kn5, kn6, kn7, kn8, kn9, kz1, kz2, kz3, kz4, kz5, kz6, kz7, kz8, kz9, kz0, reduceCtorEq, String.reduceEq, hp, e1, g2]
    repeat' (first | with_reducible refine And.intro ?_ ?_ | with_reducible intro _)
    all_goals first | omega | trivial
  · simp only [go_sem, Tryz.f136, kn1, kn2, kn3, kn4, kn5, kn6, kn7, kn8, kn9, kz1, kz2, kz3, kz4, kz5, kz6, kz7, kz8, kz9, kz0, reduceCtorEq, String.reduceEq, hp, e1, g2]
    repeat' (first | with_reducible refine And.intro ?_ ?_ | with_reducible intro _)
    all_goals first | omega | trivial

@[go_sem] noncomputable def c_gfpow_Squares : Cn := fn3j tU tZ tU (fun xs _ ps => xs.length ≤ 1048576 ∧ ps.length ≤ 262144) (fun _ _ ps => pv ps = 0) (fun _ n _ => n < 0 ∨ 2048 < n) (fun _ _ _ => .tup [vP 0, .z 8]) (fun _ _ _ => .tup [vP 0, .z 1]) fun xs n ps => .tup [vP (sqn (pv xs) (pv ps) n.toNat), .z 0]
@[go_sem] noncomputable def c_gfpow_Irreducible : Cn := fn1 tU (fun ps => ps.length ≤ 262144) fun ps => .b (ben (pv ps))
end Go.Proofs.YtggpbjhmpipplaaGreat.I
/- The references of layers 1 and 4: List, Len; Pow, Plain, Irreducible. -/
namespace Go.Proofs.YtggpbjhmpipplaaGreat.I
open Go
open Nat renaming reduceEqDiff → kn1, reduceBEq → kn2, reducePow → kn3, reduceMod → kn4, reduceAdd → kn5, reduceSub → kn6, reduceMul → kn7, reduceDiv → kn8, reduceLeDiff → kn9, reduceLT → kn0, zero_lt_one → kq1, zero_add → kq2, zero_le → kq3, le_refl → kq4
open Int renaming reduceToNat → kz1, reduceAdd → kz2, reduceSub → kz3, reduceMul → kz4, reduceDiv → kz5, reduceMod → kz6, reduceLE → kz7, reduceLT → kz8, reduceNeg → kz9, reduceEq → kz0
set_option maxRecDepth 10000
set_option linter.unusedSimpArgs false
set_option linter.unusedVariables false

/-- A row of its own: the bits of a word. -/
noncomputable def c_ref01_Bits_raw : Cn
  | [a], om, K => @so _ ((tN .u64).dec a) ⟨fun x => ∀ id, om id = none → ∀ l : List Int, 64 ≤ l.length → l.length ≤ longest → l.take 64 = bitsL 64 x → K.k (.ow id 0 64 l.length) (om.put id (els V.z l))⟩
  | _, _, _ => False
attribute [go_sem] c_ref01_Bits_raw.eq_1
theorem c_ref01_Bits_raw_mono : Mono c_ref01_Bits_raw := by
  intro args om K K' hK h
  unfold c_ref01_Bits_raw at h ⊢
  split at h
  · exact mono_so (fun x h id hid l h1 h2 h3 => hK _ _ (h id hid l h1 h2 h3)) h
  · exact h.elim
theorem quiet_ref01_Bits_raw : Quiet c_ref01_Bits_raw := by
  intro args om K h
  unfold c_ref01_Bits_raw at h ⊢
  split at h
  · exact mono_so (fun x h id hid l h1 h2 h3 => ⟨.put hid (.refl _), h id hid l h1 h2 h3⟩) h
  · exact h.elim
def rowT (id cap : Nat) : Nat → V
  | 0 => .lit []
  | k + 1 => .ow id 0 (k + 1) cap
def rowO (om : Om) (id : Nat) (l : List V) : Nat → Om
  | 0 => om
  | _ + 1 => om.put id l
attribute [go_sem] rowT.eq_1 rowT.eq_2 rowO.eq_1 rowO.eq_2
noncomputable def cx_ref01_Bits_raw : Cx := { T := T, E := E, cs := [], sch := [], ob := [15], qs := [], md := 2 }
@[go_sem] theorem cx_ref01_Bits_raw_e : cx_ref01_Bits_raw.gs = none ∧ cx_ref01_Bits_raw.md = 2 ∧ cx_ref01_Bits_raw.T = T ∧ cx_ref01_Bits_raw.E = E ∧ cx_ref01_Bits_raw.cs = [] ∧ cx_ref01_Bits_raw.ob = [15] := ⟨rfl, rfl, rfl, rfl, rfl, rfl⟩
theorem cok_ref01_Bits_raw : COk Tryz.prog (cx_ref01_Bits_raw) := cok_of rfl (.nil) (.nil) (.nil)
theorem ok_ref01_Bits_raw : Ok Tryz.prog 74 c_ref01_Bits_raw := by
  refine ok_of_body1 cok_ref01_Bits_raw mixed Tryz.func74 rfl (by kernel_rfl) (by kernel_rfl) c_ref01_Bits_raw_mono fun args om Q hw h => ?_
  unfold c_ref01_Bits_raw at h
  split at h <;> first | exact h.elim | skip
  rename_i om _ _ _ a
  replace h := so_inv h; obtain ⟨x, hx, h⟩ := h
  obtain rfl := (tN .u64).h2 _ _ hx
  simp only [go_sem, Tryz.f74, kn1, kn2, kn3, kn4, kn5, kn6, kn7, kn8, kn9, kz1, kz2, kz3, kz4, kz5, kz6, kz7, kz8, kz9, kz0, reduceCtorEq, String.reduceEq]
  refine ⟨Nat × Nat × List Int, fun q => ⟨[.n .u64 (x / 2 ^ q.1), .u, .nils, rowT q.2.1 q.2.2.length q.1, .z q.1, .u, .u, .u, .u, .u, .u, .u, .u, .u, .u, .u, .u, .u, .u], [], rowO om q.2.1 (els V.z q.2.2) q.1⟩,
    fun q => q.1 ≤ 64 ∧ (0 < q.1 → om q.2.1 = none ∧ q.1 ≤ q.2.2.length ∧ q.2.2.length ≤ 9223372036854775807 ∧ q.2.2.take q.1 = bitsL q.1 x), fun q => 64 - q.1, ⟨(0, 0, []), ⟨by omega, by simp⟩, ?_⟩, ?_⟩
  · simp only [go_sem, kn1, kn2, kn3, kn4, kn5, kn6, kn7, kn8, kn9, kz1, kz2, kz3, kz4, kz5, kz6, kz7, kz8, kz9, kz0, reduceCtorEq, String.reduceEq, Nat.pow_zero, Nat.div_one]
  · rintro ⟨k, id, l⟩ ⟨h1, h2⟩
    simp only at h1 h2
    cases k with
    | zero =>
      simp only [go_sem, kn1, kn2, kn3, kn4, kn5, kn6, kn7, kn8, kn9, kz1, kz2, kz3, kz4, kz5, kz6, kz7, kz8, kz9, kz0, reduceCtorEq, String.reduceEq, Nat.div_one]
      refine ⟨by omega, by omega, fun _ id hid cap hc1 hc2 => ⟨(1, id, ((x % 2 : Nat) : Int) :: List.replicate (cap - 1) 0), ⟨by show 1 ≤ 64; omega, fun _ => ⟨hid, by show 1 ≤ _ + 1; omega, by show _ + 1 ≤ _; simp; omega, ?_⟩⟩, ⟨⟨by show _ = x / 2 ^ 1; rw [Nat.pow_one], ?_, rfl⟩, ?_, rfl⟩, by show 64 - 1 < 64; omega⟩⟩
      · show [((x % 2 : Nat) : Int)] = bitsL 1 x
        have := bits_snoc 0 x
        rw [← this]
        show [((x % 2 : Nat) : Int)] = [bitI x 0]
        have e := bitI_mod x 0
        rw [Nat.pow_zero, Nat.div_one] at e
        rw [e]
      · show V.ow id 0 1 cap = V.ow id 0 1 (List.replicate (cap - 1) 0).length.succ
        congr 1; simp; omega
      · show OmKept (om.put id (els V.z (((x % 2 : Nat) : Int) :: List.replicate (cap - 1) 0))) (om.put id (flat (els V.z (((x % 2 : Nat) : Int) :: List.replicate (cap - 1) 0))))
        rw [flat_els']
        exact .refl _
    | succ k =>
      obtain ⟨h3, h4, h5, h6⟩ := h2 (by omega)
      have f1 : (k + 1 ≤ l.length) = True := eq_true h4
      have b := bits_snoc (k + 1) x
      rw [← bitI_mod, ← h6] at b
      simp only [go_sem, kn1, kn2, kn3, kn4, kn5, kn6, kn7, kn8, kn9, kz1, kz2, kz3, kz4, kz5, kz6, kz7, kz8, kz9, kz0, reduceCtorEq, String.reduceEq, f1]
      refine ⟨fun g1 => ⟨by omega, by omega, ⟨by omega, by omega⟩, fun g2 => ⟨by omega, (k + 1 + 1, id, l.take (k + 1) ++ [((x / 2 ^ (k + 1) % 2 : Nat) : Int)] ++ l.drop (k + 1 + 1)), ⟨by show k + 1 + 1 ≤ 64; omega, fun _ => ⟨h3, ?_, ?_, ?_⟩⟩, ⟨⟨?_, ?_, by show _ = ((k + 1 + 1 : Nat) : Int); omega⟩, ?_, rfl⟩, by show 64 - (k + 1 + 1) < _; omega⟩, fun g2 id' hid' cap' g3 g4 => ⟨by omega, (k + 1 + 1, id', l.take (k + 1) ++ [((x / 2 ^ (k + 1) % 2 : Nat) : Int)] ++ List.replicate (cap' - (k + 1 + 1)) 0), ⟨by show k + 1 + 1 ≤ 64; omega, fun _ => ⟨(new_ne hid').2.2, ?_, ?_, ?_⟩⟩, ⟨⟨?_, ?_, by show _ = ((k + 1 + 1 : Nat) : Int); omega⟩, ?_, rfl⟩, by show 64 - (k + 1 + 1) < _; omega⟩⟩, fun g1 => ?_⟩
      · show k + 1 + 1 ≤ (l.take (k + 1) ++ [_] ++ l.drop (k + 1 + 1)).length
        simp; omega
      · show (l.take (k + 1) ++ [_] ++ l.drop (k + 1 + 1)).length ≤ _
        simp; omega
      · show (l.take (k + 1) ++ [_] ++ l.drop (k + 1 + 1)).take (k + 1 + 1) = bitsL (k + 1 + 1) x
        rw [List.take_left' (by simp; omega), ← b]
      · show _ = x / 2 ^ (k + 1 + 1)
        rw [Nat.pow_succ 2 (k + 1), Nat.div_div_eq_div_mul]
      · show V.ow id 0 (k + 1 + 1) l.length = V.ow id 0 (k + 1 + 1) (l.take (k + 1) ++ [_] ++ l.drop (k + 1 + 1)).length
        congr 1; simp; omega
      · show OmKept (om.put id (els V.z (l.take (k + 1) ++ [_] ++ l.drop (k + 1 + 1)))) _
        simp only [Nat.zero_add, Nat.mul_one]
        rw [← els_append, ← els_append]
        exact .refl _
      · show k + 1 + 1 ≤ (l.take (k + 1) ++ [_] ++ List.replicate (cap' - (k + 1 + 1)) 0).length
        simp; omega
      · show (l.take (k + 1) ++ [_] ++ List.replicate (cap' - (k + 1 + 1)) 0).length ≤ _
        simp; omega
      · show (l.take (k + 1) ++ [_] ++ List.replicate (cap' - (k + 1 + 1)) 0).take (k + 1 + 1) = bitsL (k + 1 + 1) x
        rw [List.take_left' (by simp; omega), ← b]
      · show _ = x / 2 ^ (k + 1 + 1)
        rw [Nat.pow_succ 2 (k + 1), Nat.div_div_eq_div_mul]
      · show V.ow id' 0 (k + 1 + 1) cap' = V.ow id' 0 (k + 1 + 1) (l.take (k + 1) ++ [_] ++ List.replicate (cap' - (k + 1 + 1)) 0).length
        congr 1; simp; omega
      · show OmKept (om.put id' (els V.z (l.take (k + 1) ++ [_] ++ List.replicate (cap' - (k + 1 + 1)) 0))) _
        simp only [Nat.mul_one]
        rw [← els_append, ← els_append]
        exact .over h3 _ _
      · have e : k + 1 = 64 := by omega
        rw [e] at h6 h4 ⊢
        exact h id h3 l h4 h5 h6

theorem bits_two (x : Nat) : bitsL 64 (x % 18446744073709551616) ++ bitsL 64 (x / 18446744073709551616) = bitsL 128 x := by
  apply List.ext_getElem
  · simp [bitsL]
  · intro i h1 h2
    simp only [bitsL_len, List.length_append] at h1 h2
    rw [List.getElem_append]
    split
    · rename_i h; simp only [bitsL_len] at h
      simp only [bitsL, List.getElem_map, List.getElem_range, bitI]
      rw [show (18446744073709551616 : Nat) = 2 ^ 64 from rfl, Nat.testBit_mod_two_pow]
      simp [h]
    · rename_i h; simp only [bitsL_len] at h
      simp only [bitsL, List.getElem_map, List.getElem_range, bitI, List.length_map, List.length_range]
      rw [show (18446744073709551616 : Nat) = 2 ^ 64 from rfl, Nat.testBit_div_two_pow, show i - 64 + 64 = i by omega]
@[go_sem] noncomputable def c_ref01_List : Cn := fn1 tW (fun _ => True) fun x => .sl (els V.z (bitsL 128 x))
noncomputable def cx_ref01_List : Cx := { T := T, E := E, cs := [(74, c_ref01_Bits_raw)], sch := [(1, false, .take 0 (.take 3 (.alt 1 (.alt 2 (.alt 4 (.alt 5 (.alt 6 (.take 7 (.done)) .no) .no) .no) (.alt 4 (.alt 2 (.alt 5 (.alt 6 (.take 7 (.done)) .no) .no) .no) (.no))) (.alt 4 (.alt 1 (.alt 2 (.alt 5 (.alt 6 (.take 7 (.done)) .no) .no) .no) .no) (.no)))))], ob := [9], qs := [74], md := 1 }
@[go_sem] theorem cx_ref01_List_e : cx_ref01_List.gs = none ∧ cx_ref01_List.md = 1 ∧ cx_ref01_List.T = T ∧ cx_ref01_List.E = E ∧ cx_ref01_List.cs = [(74, c_ref01_Bits_raw)] ∧ cx_ref01_List.sch = [(1, false, .take 0 (.take 3 (.alt 1 (.alt 2 (.alt 4 (.alt 5 (.alt 6 (.take 7 (.done)) .no) .no) .no) (.alt 4 (.alt 2 (.alt 5 (.alt 6 (.take 7 (.done)) .no) .no) .no) (.no))) (.alt 4 (.alt 1 (.alt 2 (.alt 5 (.alt 6 (.take 7 (.done)) .no) .no) .no) .no) (.no)))))] ∧ cx_ref01_List.ob = [9] := ⟨rfl, rfl, rfl, rfl, rfl, rfl, rfl⟩
theorem cok_ref01_List : COk Tryz.prog (cx_ref01_List) := cok_of rfl (.cons ok_ref01_Bits_raw (.nil)) (.cons (fun _ => quiet_ref01_Bits_raw) (.nil)) (.nil)
theorem ok_ref01_List : Ok Tryz.prog 68 c_ref01_List := by
  refine ok_fn1 cok_ref01_List mixed Tryz.func68 rfl (by kernel_rfl) (by kernel_rfl) rfl ?_
  intro x om hw _
  have hx := wf_w hw
  simp (config := {contextual := true}) only [go_sem, Tryz.f68, kn1, kn2, kn3, kn4, kn5, kn6, kn7, kn8, kn9, kz1, kz2, kz3, kz4, kz5, kz6, kz7, kz8, kz9, kz0, reduceCtorEq, String.reduceEq, new_iff, and_imp]
  repeat' (first | with_reducible refine And.intro ?_ ?_ | with_reducible intro _)
  all_goals first
    | omega
    | (rw [List.take_left' (by simp [bitsL_len])]; exact bits_two x)
    | (simp only [List.length_append, bitsL_len]; omega)
    | (refine OmKept.delr (by assumption) ?_
       repeat' (first | exact OmKept.refl _ | refine OmKept.put (by assumption) ?_))
end Go.Proofs.YtggpbjhmpipplaaGreat.I
