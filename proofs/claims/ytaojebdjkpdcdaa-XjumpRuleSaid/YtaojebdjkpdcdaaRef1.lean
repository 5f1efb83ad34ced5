/- The references of layers 1 and 2: Bits, Trim, Parts, At, Words. -/
import Derived.Test.YtaojebdjkpdcdaaGfp3
import Derived.Test.YtaojebdjkpdcdaaG1
namespace Go.Proofs.Ytaojebdjkpdcdaa.I
open Go
set_option maxRecDepth 10000
set_option linter.unusedSimpArgs false
set_option linter.unusedVariables false

/-- The parts of a polynomial. -/
def vB (n : Nat) : V := .sl (els V.z (pb n))
@[go_sem] theorem vB_eq (n : Nat) : vB n = .sl (els V.z (pb n)) := rfl
theorem pb_inj {a b : Nat} : pb a = pb b ↔ a = b := by
  constructor
  · intro h; rw [← bv_pb a, h, bv_pb]
  · rintro rfl; rfl
@[go_sem] theorem pb_inj' (a b : Nat) : (pb a = pb b) = (a = b) := propext pb_inj
@[go_sem] theorem good_pb' (a : Nat) : good (pb a) = True := eq_true (good_pb a)
@[go_sem] theorem good_bits' (k a : Nat) : good (bitsL k a) = True := eq_true (good_bitsL k a)
@[go_sem] theorem good_nil' : good [] = True := eq_true good_nil
theorem wfs_good {l : List Int} (h : good l) : wfs (els V.z l) := by
  rw [wfs_iff]
  intro x hx
  obtain ⟨y, hy, rfl⟩ := List.mem_map.1 hx
  rcases h y hy with rfl | rfl <;> simp [V.wf, i64ok]
@[go_sem] theorem wfs_pb (n : Nat) : wfs (els V.z (pb n)) = True := eq_true (wfs_good (good_pb n))
@[go_sem] theorem wfs_bits (k n : Nat) : wfs (els V.z (bitsL k n)) = True := eq_true (wfs_good (good_bitsL k n))
theorem bv_nil : bv [] = 0 := rfl
attribute [go_sem] bv_pb bv_bitsL pb_len bitsL_len bits_take bv_nil

def c_ref01_Bits : Cn := fn1 (tN .u64) (fun _ => True) fun x => .sl (els V.z (bitsL 64 x))
noncomputable def cx_ref01_Bits : Cx := { T := T, E := E, cs := [], sch := [], ob := [], qs := [] }
@[go_sem] theorem cx_ref01_Bits_md : cx_ref01_Bits.md = 0 := rfl
@[go_sem] theorem cx_ref01_Bits_T : cx_ref01_Bits.T = T := rfl
@[go_sem] theorem cx_ref01_Bits_E : cx_ref01_Bits.E = E := rfl
@[go_sem] theorem cx_ref01_Bits_cs : cx_ref01_Bits.cs = [] := rfl
@[go_sem] theorem cx_ref01_Bits_ob (d : Nat) : (cx_ref01_Bits.ob).contains d = false := rfl
theorem cok_ref01_Bits : COk Try.prog (cx_ref01_Bits) := cok_of rfl (.nil) (.nil) (.nil)
theorem ok_ref01_Bits : Ok Try.prog 56 c_ref01_Bits := by
  refine ok_fn1 cok_ref01_Bits mixed Try.func56 rfl (by kernel_rfl) (by kernel_rfl) rfl ?_
  intro x om hw _
  simp only [go_sem, Try.f56, Nat.reduceEqDiff, Nat.reduceBEq, Int.reduceToNat, Nat.reducePow, Nat.reduceMod, Nat.reduceAdd, Nat.reduceSub, Nat.reduceMul, Nat.reduceDiv, Nat.reduceLeDiff, Int.reduceAdd, Int.reduceSub, Int.reduceMul, Int.reduceDiv, Int.reduceMod, Int.reduceLE, Int.reduceLT, Int.reduceNeg, Int.reduceEq, Int.cast_ofNat_Int, Int.natCast_zero, List.contains_cons, List.contains_nil, Bool.or_false, Bool.or_true, Bool.true_or, reduceCtorEq, or_false, or_true, false_or, true_or, and_false, false_and, ne_eq, List.take_zero, List.take_succ_cons, List.take_nil, List.drop_zero, List.drop_succ_cons, List.drop_nil, decide_true, decide_false]
  refine ⟨Nat, fun k => ⟨[.n .u64 (x / 2 ^ k), .u, .u, .row 15 k k, .z k, .u, .u, .u, .u, .u, .u, .u, .u, .u, .u, .u, .u, .u, .u], [(15, ⟨1, false, els V.z (bitsL k x), false⟩)], om⟩, fun k => k ≤ 64, fun k => 64 - k, ⟨0, by omega, ?_⟩, ?_⟩
  · simp only [go_sem, Nat.reduceEqDiff, Nat.reduceBEq, Int.reduceToNat, Nat.reducePow, Nat.reduceMod, Nat.reduceAdd, Nat.reduceSub, Nat.reduceMul, Nat.reduceDiv, Nat.reduceLeDiff, Int.reduceAdd, Int.reduceSub, Int.reduceMul, Int.reduceDiv, Int.reduceMod, Int.reduceLE, Int.reduceLT, Int.reduceNeg, Int.reduceEq, Int.cast_ofNat_Int, Int.natCast_zero, List.contains_cons, List.contains_nil, Bool.or_false, Bool.or_true, Bool.true_or, reduceCtorEq, or_false, or_true, false_or, true_or, and_false, false_and, ne_eq, List.take_zero, List.take_succ_cons, List.take_nil, List.drop_zero, List.drop_succ_cons, List.drop_nil, decide_true, decide_false, Nat.pow_zero, Nat.div_one]
    rfl
  · intro k hk
    simp only [go_sem, Nat.reduceEqDiff, Nat.reduceBEq, Int.reduceToNat, Nat.reducePow, Nat.reduceMod, Nat.reduceAdd, Nat.reduceSub, Nat.reduceMul, Nat.reduceDiv, Nat.reduceLeDiff, Int.reduceAdd, Int.reduceSub, Int.reduceMul, Int.reduceDiv, Int.reduceMod, Int.reduceLE, Int.reduceLT, Int.reduceNeg, Int.reduceEq, Int.cast_ofNat_Int, Int.natCast_zero, List.contains_cons, List.contains_nil, Bool.or_false, Bool.or_true, Bool.true_or, reduceCtorEq, or_false, or_true, false_or, true_or, and_false, false_and, ne_eq, List.take_zero, List.take_succ_cons, List.take_nil, List.drop_zero, List.drop_succ_cons, List.drop_nil, decide_true, decide_false, bitI_mod, bits_snoc]
    refine ⟨fun h => ⟨by omega, by omega, by omega, by omega, k + 1, by omega, ⟨⟨by rw [Nat.pow_succ, Nat.div_div_eq_div_mul], rfl, by omega⟩, rfl⟩, by omega⟩, fun h => ?_⟩
    obtain rfl : k = 64 := by omega
    rfl

def c_ref02_Trim : Cn := fn1 tZs (fun l => good l ∧ l.length ≤ 1099511627776) fun l => vB (bv l)
noncomputable def cx_ref02_Trim : Cx := { T := T, E := E, cs := [], sch := [], ob := [], qs := [] }
@[go_sem] theorem cx_ref02_Trim_md : cx_ref02_Trim.md = 0 := rfl
@[go_sem] theorem cx_ref02_Trim_T : cx_ref02_Trim.T = T := rfl
@[go_sem] theorem cx_ref02_Trim_E : cx_ref02_Trim.E = E := rfl
@[go_sem] theorem cx_ref02_Trim_cs : cx_ref02_Trim.cs = [] := rfl
@[go_sem] theorem cx_ref02_Trim_ob (d : Nat) : (cx_ref02_Trim.ob).contains d = false := rfl
theorem cok_ref02_Trim : COk Try.prog (cx_ref02_Trim) := cok_of rfl (.nil) (.nil) (.nil)
theorem ok_ref02_Trim : Ok Try.prog 57 c_ref02_Trim := by
  refine ok_fn1 cok_ref02_Trim mixed Try.func57 rfl (by kernel_rfl) (by kernel_rfl) rfl ?_
  intro l om hw ⟨hg, hl⟩
  simp only [go_sem, Try.f57, Nat.reduceEqDiff, Nat.reduceBEq, Int.reduceToNat, Nat.reducePow, Nat.reduceMod, Nat.reduceAdd, Nat.reduceSub, Nat.reduceMul, Nat.reduceDiv, Nat.reduceLeDiff, Int.reduceAdd, Int.reduceSub, Int.reduceMul, Int.reduceDiv, Int.reduceMod, Int.reduceLE, Int.reduceLT, Int.reduceNeg, Int.reduceEq, Int.cast_ofNat_Int, Int.natCast_zero, List.contains_cons, List.contains_nil, Bool.or_false, Bool.or_true, Bool.true_or, reduceCtorEq, or_false, or_true, false_or, true_or, and_false, false_and, ne_eq, List.take_zero, List.take_succ_cons, List.take_nil, List.drop_zero, List.drop_succ_cons, List.drop_nil, decide_true, decide_false]
  refine ⟨Nat, fun k => ⟨[.sl (els V.z l), .u, .u, .z k, .u, .u, .u, .u, .u, .u, .u, .u, .u, .u, .u, .u, .u, .u, .u, .u, .u, .u, .u], [], om⟩, fun k => k ≤ l.length ∧ bl (bv l) ≤ k, fun k => k, ⟨l.length, ⟨Nat.le_refl _, bl_bv l⟩, ?_⟩, ?_⟩
  · simp only [go_sem, Nat.reduceEqDiff, Nat.reduceBEq, Int.reduceToNat, Nat.reducePow, Nat.reduceMod, Nat.reduceAdd, Nat.reduceSub, Nat.reduceMul, Nat.reduceDiv, Nat.reduceLeDiff, Int.reduceAdd, Int.reduceSub, Int.reduceMul, Int.reduceDiv, Int.reduceMod, Int.reduceLE, Int.reduceLT, Int.reduceNeg, Int.reduceEq, Int.cast_ofNat_Int, Int.natCast_zero, List.contains_cons, List.contains_nil, Bool.or_false, Bool.or_true, Bool.true_or, reduceCtorEq, or_false, or_true, false_or, true_or, and_false, false_and, ne_eq, List.take_zero, List.take_succ_cons, List.take_nil, List.drop_zero, List.drop_succ_cons, List.drop_nil, decide_true, decide_false]
  · rintro k ⟨hk, hb⟩
    simp only [go_sem, Nat.reduceEqDiff, Nat.reduceBEq, Int.reduceToNat, Nat.reducePow, Nat.reduceMod, Nat.reduceAdd, Nat.reduceSub, Nat.reduceMul, Nat.reduceDiv, Nat.reduceLeDiff, Int.reduceAdd, Int.reduceSub, Int.reduceMul, Int.reduceDiv, Int.reduceMod, Int.reduceLE, Int.reduceLT, Int.reduceNeg, Int.reduceEq, Int.cast_ofNat_Int, Int.natCast_zero, List.contains_cons, List.contains_nil, Bool.or_false, Bool.or_true, Bool.true_or, reduceCtorEq, or_false, or_true, false_or, true_or, and_false, false_and, ne_eq, List.take_zero, List.take_succ_cons, List.take_nil, List.drop_zero, List.drop_succ_cons, List.drop_nil, decide_true, decide_false, List.drop_zero]
    have e : 0 < k → ((k : Int) - 1).toNat = k - 1 := fun h => by omega
    have fin : bl (bv l) = k → l.take k = pb (bv l) := fun h => by rw [← h]; exact take_bl hg
    refine ⟨fun h0 => ⟨by omega, by omega, fun h1 => ⟨by omega, k - 1, ⟨by omega, ?_⟩, by omega, by omega⟩, fun h1 => ⟨by omega, by simp; omega, fin ?_⟩⟩, fun h0 => ⟨by omega, by simp; omega, fin (by omega)⟩⟩
    · rw [e (by omega)] at h1; exact bl_less hg hb (by omega) h1
    · rw [e (by omega)] at h1; exact bl_full hg hb (by omega) h1

def c_ref02_Parts : Cn := fn1 tU (fun xs => xs.length ≤ 4294967296) fun xs => vB (pv xs)
noncomputable def cx_ref02_Parts : Cx := { T := T, E := E, cs := [(56, c_ref01_Bits), (57, c_ref02_Trim)], sch := [], ob := [], qs := [56, 57] }
@[go_sem] theorem cx_ref02_Parts_md : cx_ref02_Parts.md = 0 := rfl
@[go_sem] theorem cx_ref02_Parts_T : cx_ref02_Parts.T = T := rfl
@[go_sem] theorem cx_ref02_Parts_E : cx_ref02_Parts.E = E := rfl
@[go_sem] theorem cx_ref02_Parts_cs : cx_ref02_Parts.cs = [(56, c_ref01_Bits), (57, c_ref02_Trim)] := rfl
@[go_sem] theorem cx_ref02_Parts_ob (d : Nat) : (cx_ref02_Parts.ob).contains d = false := rfl
theorem cok_ref02_Parts : COk Try.prog (cx_ref02_Parts) := cok_of rfl (.cons ok_ref01_Bits (.cons ok_ref02_Trim (.nil))) (.cons (fun _ => fn1_quiet) (.cons (fun _ => fn1_quiet) (.nil))) (.nil)
theorem ok_ref02_Parts : Ok Try.prog 18 c_ref02_Parts := by
  refine ok_fn1 cok_ref02_Parts mixed Try.func18 rfl (by kernel_rfl) (by kernel_rfl) rfl ?_
  intro xs om hw hl
  have hx := (wf_u hw).2
  simp only [go_sem, Try.f18, Nat.reduceEqDiff, Nat.reduceBEq, Int.reduceToNat, Nat.reducePow, Nat.reduceMod, Nat.reduceAdd, Nat.reduceSub, Nat.reduceMul, Nat.reduceDiv, Nat.reduceLeDiff, Int.reduceAdd, Int.reduceSub, Int.reduceMul, Int.reduceDiv, Int.reduceMod, Int.reduceLE, Int.reduceLT, Int.reduceNeg, Int.reduceEq, Int.cast_ofNat_Int, Int.natCast_zero, List.contains_cons, List.contains_nil, Bool.or_false, Bool.or_true, Bool.true_or, reduceCtorEq, or_false, or_true, false_or, true_or, and_false, false_and, ne_eq, List.take_zero, List.take_succ_cons, List.take_nil, List.drop_zero, List.drop_succ_cons, List.drop_nil, decide_true, decide_false, c_ref01_Bits, c_ref02_Trim]
  refine ⟨Nat, fun k => ⟨[.sl (els (V.n .u64) xs), .u, .u, .row 18 (64 * k) (64 * k), .z k, .u, .u, .u, .u, .u, .u, .u, .u, .u, .u, .u, .u, .u, .u, .u, .u], [(18, ⟨1, false, els V.z (bitsL (64 * k) (pv (xs.take k))), false⟩)], om⟩, fun k => k ≤ xs.length, fun k => xs.length - k, ⟨0, by omega, ?_⟩, ?_⟩
  · simp only [go_sem, Nat.reduceEqDiff, Nat.reduceBEq, Int.reduceToNat, Nat.reducePow, Nat.reduceMod, Nat.reduceAdd, Nat.reduceSub, Nat.reduceMul, Nat.reduceDiv, Nat.reduceLeDiff, Int.reduceAdd, Int.reduceSub, Int.reduceMul, Int.reduceDiv, Int.reduceMod, Int.reduceLE, Int.reduceLT, Int.reduceNeg, Int.reduceEq, Int.cast_ofNat_Int, Int.natCast_zero, List.contains_cons, List.contains_nil, Bool.or_false, Bool.or_true, Bool.true_or, reduceCtorEq, or_false, or_true, false_or, true_or, and_false, false_and, ne_eq, List.take_zero, List.take_succ_cons, List.take_nil, List.drop_zero, List.drop_succ_cons, List.drop_nil, decide_true, decide_false, c_ref01_Bits, c_ref02_Trim, Nat.mul_zero]
    rfl
  · intro k hk
    simp only [go_sem, Nat.reduceEqDiff, Nat.reduceBEq, Int.reduceToNat, Nat.reducePow, Nat.reduceMod, Nat.reduceAdd, Nat.reduceSub, Nat.reduceMul, Nat.reduceDiv, Nat.reduceLeDiff, Int.reduceAdd, Int.reduceSub, Int.reduceMul, Int.reduceDiv, Int.reduceMod, Int.reduceLE, Int.reduceLT, Int.reduceNeg, Int.reduceEq, Int.cast_ofNat_Int, Int.natCast_zero, List.contains_cons, List.contains_nil, Bool.or_false, Bool.or_true, Bool.true_or, reduceCtorEq, or_false, or_true, false_or, true_or, and_false, false_and, ne_eq, List.take_zero, List.take_succ_cons, List.take_nil, List.drop_zero, List.drop_succ_cons, List.drop_nil, decide_true, decide_false, c_ref01_Bits, c_ref02_Trim]
    have hlt : pv (xs.take k) < 2 ^ (64 * k) := by
      have := pv_lt (take_lt hx k)
      rw [List.length_take, Nat.min_eq_left hk] at this; exact this
    refine ⟨fun h => ⟨by omega, by omega, by omega, k + 1, by omega, ⟨⟨by omega, by omega⟩, ?_⟩, by omega⟩, fun h => ⟨by omega, fun _ => ?_⟩⟩
    · rw [bits_append _ _ _ _ hlt, pv_take_succ hx (by omega)]; rfl
    · obtain rfl : k = xs.length := by omega
      rw [Nat.mod_eq_of_lt hlt, List.take_length]

def c_ref02_At : Cn := fn2 tZs tZ (fun l _ => good l) fun l i => .z (tb (bv l) i)
theorem take_snoc_getD {α : Type} {xs : List α} {k : Nat} (hk : k < xs.length) (d : α) : xs.take (k + 1) = xs.take k ++ [xs.getD k d] := by
  rw [List.take_succ_eq_append_getElem hk]; simp [List.getD, hk]

def c_ref02_Words : Cn := fn2 tU tU (fun _ _ => True) fun xs ys => .b (decide (xs = ys))
noncomputable def cx_ref02_Words : Cx := { T := T, E := E, cs := [], sch := [(6, false, .take 0 (.take 1 (.take 2 (.take 3 (.take 4 (.take 5 (.take 6 (.take 7 (.take 8 (.done))))))))))], ob := [], qs := [] }
@[go_sem] theorem cx_ref02_Words_md : cx_ref02_Words.md = 0 := rfl
@[go_sem] theorem cx_ref02_Words_T : cx_ref02_Words.T = T := rfl
@[go_sem] theorem cx_ref02_Words_E : cx_ref02_Words.E = E := rfl
@[go_sem] theorem cx_ref02_Words_cs : cx_ref02_Words.cs = [] := rfl
@[go_sem] theorem cx_ref02_Words_sch : cx_ref02_Words.sch = [(6, false, .take 0 (.take 1 (.take 2 (.take 3 (.take 4 (.take 5 (.take 6 (.take 7 (.take 8 (.done))))))))))] := rfl
@[go_sem] theorem cx_ref02_Words_ob (d : Nat) : (cx_ref02_Words.ob).contains d = false := rfl
theorem cok_ref02_Words : COk Try.prog (cx_ref02_Words) := cok_of rfl (.nil) (.nil) (.nil)
theorem ok_ref02_Words : Ok Try.prog 19 c_ref02_Words := by
  refine ok_fn2 cok_ref02_Words mixed Try.func19 rfl (by kernel_rfl) (by kernel_rfl) rfl ?_
  intro xs ys om hw _
  have hxl := (wf_u ⟨hw.1, trivial⟩).1
  rw [longest_eq] at hxl
  simp only [go_sem, Try.f19, Nat.reduceEqDiff, Nat.reduceBEq, Int.reduceToNat, Nat.reducePow, Nat.reduceMod, Nat.reduceAdd, Nat.reduceSub, Nat.reduceMul, Nat.reduceDiv, Nat.reduceLeDiff, Int.reduceAdd, Int.reduceSub, Int.reduceMul, Int.reduceDiv, Int.reduceMod, Int.reduceLE, Int.reduceLT, Int.reduceNeg, Int.reduceEq, Int.cast_ofNat_Int, Int.natCast_zero, List.contains_cons, List.contains_nil, Bool.or_false, Bool.or_true, Bool.true_or, reduceCtorEq, or_false, or_true, false_or, true_or, and_false, false_and, ne_eq, List.take_zero, List.take_succ_cons, List.take_nil, List.drop_zero, List.drop_succ_cons, List.drop_nil, decide_true, decide_false]
  refine ⟨fun hl => ?_, fun hl => ?_⟩
  · refine ⟨Nat, fun k => ⟨[.sl (els (V.n .u64) xs), .sl (els (V.n .u64) ys), .u, .u, .u, .z k, .u, .u, .u, .u, .u, .u, .u, .u, .u, .u, .u, .u, .u, .u, .u, .u, .u, .u, .u, .u], [], om⟩, fun k => k ≤ xs.length ∧ xs.take k = ys.take k, fun k => xs.length - k, ⟨0, ⟨by omega, rfl⟩, ?_⟩, ?_⟩
    · simp only [go_sem, Nat.reduceEqDiff, Nat.reduceBEq, Int.reduceToNat, Nat.reducePow, Nat.reduceMod, Nat.reduceAdd, Nat.reduceSub, Nat.reduceMul, Nat.reduceDiv, Nat.reduceLeDiff, Int.reduceAdd, Int.reduceSub, Int.reduceMul, Int.reduceDiv, Int.reduceMod, Int.reduceLE, Int.reduceLT, Int.reduceNeg, Int.reduceEq, Int.cast_ofNat_Int, Int.natCast_zero, List.contains_cons, List.contains_nil, Bool.or_false, Bool.or_true, Bool.true_or, reduceCtorEq, or_false, or_true, false_or, true_or, and_false, false_and, ne_eq, List.take_zero, List.take_succ_cons, List.take_nil, List.drop_zero, List.drop_succ_cons, List.drop_nil, decide_true, decide_false]
    · rintro k ⟨hk, ht⟩
      simp only [go_sem, Nat.reduceEqDiff, Nat.reduceBEq, Int.reduceToNat, Nat.reducePow, Nat.reduceMod, Nat.reduceAdd, Nat.reduceSub, Nat.reduceMul, Nat.reduceDiv, Nat.reduceLeDiff, Int.reduceAdd, Int.reduceSub, Int.reduceMul, Int.reduceDiv, Int.reduceMod, Int.reduceLE, Int.reduceLT, Int.reduceNeg, Int.reduceEq, Int.cast_ofNat_Int, Int.natCast_zero, List.contains_cons, List.contains_nil, Bool.or_false, Bool.or_true, Bool.true_or, reduceCtorEq, or_false, or_true, false_or, true_or, and_false, false_and, ne_eq, List.take_zero, List.take_succ_cons, List.take_nil, List.drop_zero, List.drop_succ_cons, List.drop_nil, decide_true, decide_false]
      refine ⟨fun h => ⟨by omega, by omega, fun e => ⟨by omega, k + 1, ⟨by omega, ?_⟩, by omega, by omega⟩, fun e => ?_⟩, fun h => ?_⟩
      · rw [take_snoc_getD (by omega) 0, take_snoc_getD (show k < ys.length by omega) 0, ht, e]
      · rw [eq_comm, decide_eq_false_iff_not]; rintro rfl; exact e rfl
      · rw [eq_comm, decide_eq_true_iff]
        rwa [List.take_of_length_le (by omega), List.take_of_length_le (by omega)] at ht
  · rw [eq_comm, decide_eq_false_iff_not]; rintro rfl; exact hl rfl
end Go.Proofs.Ytaojebdjkpdcdaa.I
