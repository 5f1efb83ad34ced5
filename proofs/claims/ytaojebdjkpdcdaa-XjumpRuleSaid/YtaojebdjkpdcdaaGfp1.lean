/- gfp, from below: Len64, Clone, Poly.at, Own. -/
import Derived.Test.YtaojebdjkpdcdaaM3
import Derived.Test.YtaojebdjkpdcdaaG1
namespace Go.Proofs.Ytaojebdjkpdcdaa.I
open Go
set_option maxRecDepth 10000
set_option linter.unusedSimpArgs false
set_option linter.unusedVariables false

theorem bl_shr {x k : Nat} (h : 2 ^ k ≤ x) : bl x = k + bl (x >>> k) := by
  have key : ∀ n, bl x ≤ n ↔ k + bl (x >>> k) ≤ n := by
    intro n
    rw [bl_lt]
    by_cases hn : k ≤ n
    · have : k + bl (x >>> k) ≤ n ↔ bl (x >>> k) ≤ n - k := by omega
      rw [this, bl_lt, Nat.shiftRight_eq_div_pow, Nat.div_lt_iff_lt_mul (Nat.pow_pos (by omega)), ← Nat.pow_add]
      rw [show n - k + k = n by omega]
    · have h1 : ¬ x < 2 ^ n := by
        have := Nat.pow_le_pow_right (n := 2) (by omega) (show n ≤ k by omega); omega
      simp only [h1, false_iff]; omega
  have h1 := (key (bl x)).1 (Nat.le_refl _)
  have h2 := (key (k + bl (x >>> k))).2 (Nat.le_refl _)
  omega

def c_math_bits_Len64 : Cn := fn1 (tN .u64) (fun _ => True) fun x => .z (bl x)
noncomputable def cx_math_bits_Len64 : Cx := { T := T, E := E, cs := [], sch := [], ob := [], qs := [] }
@[go_sem] theorem cx_math_bits_Len64_md : cx_math_bits_Len64.md = 0 := rfl
@[go_sem] theorem cx_math_bits_Len64_T : cx_math_bits_Len64.T = T := rfl
@[go_sem] theorem cx_math_bits_Len64_E : cx_math_bits_Len64.E = E := rfl
@[go_sem] theorem cx_math_bits_Len64_cs : cx_math_bits_Len64.cs = [] := rfl
@[go_sem] theorem cx_math_bits_Len64_ob (d : Nat) : (cx_math_bits_Len64.ob).contains d = false := rfl
theorem cok_math_bits_Len64 : COk Try.prog (cx_math_bits_Len64) := cok_of rfl (.nil) (.nil) (.nil)
theorem ok_math_bits_Len64 : Ok Try.prog 62 c_math_bits_Len64 := by
  refine ok_fn1 cok_math_bits_Len64 mixed Try.func62 rfl (by kernel_rfl) (by kernel_rfl) rfl ?_
  intro x om hw _
  simp only [go_sem, Try.f62, Int.reduceToNat, Nat.reduceEqDiff, Nat.reduceBEq]
  generalize hT : ({ data := _ } : ByteArray) = tab
  have h1 : tab.size = 256 := by rw [← hT]; rfl
  have h2 : ∀ i, i < 256 → byteAt tab i = bl i := by rw [← hT]; decide
  clear hT
  have hx : x < 18446744073709551616 := by have := hw.1; simpa [tN, V.wf, IntKind.bits] using this
  have fin : ∀ (e : Int) (c y : Nat), e = c → c ≤ 64 → y < 256 → bl x = c + bl y →
      y % 2 ^ 8 < tab.size ∧ byteAt tab (y % 2 ^ 8) < 9223372036854775808 ∧ (-9223372036854775808 ≤ e + (byteAt tab (y % 2 ^ 8) : Int) ∧ e + (byteAt tab (y % 2 ^ 8) : Int) ≤ 9223372036854775807) ∧ e + (byteAt tab (y % 2 ^ 8) : Int) = bl x := by
    intro e c y he hc hy hb
    have h3 : bl y ≤ 8 := bl_lt.2 (by omega)
    have h4 : y % 2 ^ 8 = y := Nat.mod_eq_of_lt (by omega)
    rw [h4, h2 y hy, h1, he]
    refine ⟨hy, by omega, by omega, by omega⟩
  have sh : ∀ a b : Nat, a >>> b = a / 2 ^ b := fun a b => Nat.shiftRight_eq_div_pow a b

  refine ⟨fun a1 => ⟨fun a2 => ⟨by omega, fun a3 => ⟨by omega, ?_⟩, fun a3 => ?_⟩, fun a2 => ⟨fun a3 => ⟨by omega, ?_⟩, fun a3 => ?_⟩⟩, fun a1 => ⟨fun a2 => ⟨by omega, fun a3 => ⟨by omega, ?_⟩, fun a3 => ?_⟩, fun a2 => ⟨fun a3 => ⟨by omega, ?_⟩, fun a3 => ?_⟩⟩⟩
  · exact fin _ 56 _ rfl (by omega) (by simp only [sh] at *; omega) (by rw [bl_shr (k := 32) a1, bl_shr (k := 16) a2, bl_shr (k := 8) a3]; omega)
  · exact fin _ 48 _ rfl (by omega) (by simp only [sh] at *; omega) (by rw [bl_shr (k := 32) a1, bl_shr (k := 16) a2]; omega)
  · exact fin _ 40 _ rfl (by omega) (by simp only [sh] at *; omega) (by rw [bl_shr (k := 32) a1, bl_shr (k := 8) a3]; omega)
  · exact fin _ 32 _ rfl (by omega) (by simp only [sh] at *; omega) (by rw [bl_shr (k := 32) a1])
  · exact fin _ 24 _ rfl (by omega) (by simp only [sh] at *; omega) (by rw [bl_shr (k := 16) a2, bl_shr (k := 8) a3]; omega)
  · exact fin _ 16 _ rfl (by omega) (by simp only [sh] at *; omega) (by rw [bl_shr (k := 16) a2])
  · exact fin _ 8 _ rfl (by omega) (by simp only [sh] at *; omega) (by rw [bl_shr (k := 8) a3])
  · exact fin _ 0 _ rfl (by omega) (by omega) (by omega)

/-- A polynomial in its own form. -/
def vP (n : Nat) : V := .sl (els (V.n .u64) (wd n))
@[go_sem] theorem vP_eq (n : Nat) : vP n = .sl (els (V.n .u64) (wd n)) := rfl
attribute [go_sem] pv_wd wd_len wd_getD
@[go_sem] theorem wfs_wd (n : Nat) : wfs (els (V.n .u64) (wd n)) = True := eq_true ((wf_n .u64 _).2 (wd_lt n))
theorem pv_nil : pv [] = 0 := rfl
theorem pv_one (x : Nat) : pv [x] = x := by simp [pv]
@[go_sem] theorem wd_inj' (a b : Nat) : (wd a = wd b) = (a = b) := propext wd_inj
@[go_sem] theorem wd_nil' (a : Nat) : (wd a = []) = (a = 0) := propext wd_eq_nil
attribute [go_sem] wd_zero pv_nil pv_one
theorem pv_filled {n k m : Nat} (hk : k = n) (hn : bl m ≤ 64 * n) : pv (filled n k (wdAt m) 0) = m := by
  subst hk; rw [filled_all]; exact pv_map (bl_lt.1 hn) fun i _ => rfl

/-- slices.Clone. -/
def c_slices_Clone_gfp_Poly_uint64 : Cn := fn1 tU (fun xs => xs.length ≤ 17592186044416) fun xs => .sl (els (V.n .u64) xs)
noncomputable def cx_slices_Clone_gfp_Poly_uint64 : Cx := { T := T, E := E, cs := [], sch := [], ob := [], qs := [] }
@[go_sem] theorem cx_slices_Clone_gfp_Poly_uint64_md : cx_slices_Clone_gfp_Poly_uint64.md = 0 := rfl
@[go_sem] theorem cx_slices_Clone_gfp_Poly_uint64_T : cx_slices_Clone_gfp_Poly_uint64.T = T := rfl
@[go_sem] theorem cx_slices_Clone_gfp_Poly_uint64_E : cx_slices_Clone_gfp_Poly_uint64.E = E := rfl
@[go_sem] theorem cx_slices_Clone_gfp_Poly_uint64_cs : cx_slices_Clone_gfp_Poly_uint64.cs = [] := rfl
@[go_sem] theorem cx_slices_Clone_gfp_Poly_uint64_ob (d : Nat) : (cx_slices_Clone_gfp_Poly_uint64.ob).contains d = false := rfl
theorem cok_slices_Clone_gfp_Poly_uint64 : COk Try.prog (cx_slices_Clone_gfp_Poly_uint64) := cok_of rfl (.nil) (.nil) (.nil)
theorem ok_slices_Clone_gfp_Poly_uint64 : Ok Try.prog 84 c_slices_Clone_gfp_Poly_uint64 := by
  refine ok_fn1 cok_slices_Clone_gfp_Poly_uint64 mixed Try.func84 rfl (by kernel_rfl) (by kernel_rfl) rfl ?_
  intro xs om hw hl
  simp only [go_sem, Try.f84, Nat.reduceEqDiff, Nat.reduceBEq, Int.reduceToNat, Nat.reducePow, Nat.reduceMod, Nat.reduceAdd, Nat.reduceSub, Nat.reduceMul, Nat.reduceDiv, Nat.reduceLeDiff, Int.reduceAdd, Int.reduceSub, Int.reduceMul, Int.reduceDiv, Int.reduceMod, Int.reduceLE, Int.reduceLT, Int.reduceNeg, Int.reduceEq, Int.cast_ofNat_Int, Int.natCast_zero, List.contains_cons, List.contains_nil, Bool.or_false, Bool.or_true, Bool.true_or, reduceCtorEq, or_false, or_true, false_or, true_or, and_false, false_and, ne_eq, List.take_zero, List.take_succ_cons, List.take_nil, List.drop_zero, List.drop_succ_cons, List.drop_nil, decide_true, decide_false]
  exact ⟨fun e => e, by omega⟩

/-- The word at a place, 0 outside. -/
def atU (n : Nat) (i : Int) : Nat := if 0 ≤ i then wdAt n i.toNat else 0
theorem atU_pos {n : Nat} {i : Int} (h : 0 ≤ i) : atU n i = wdAt n i.toNat := if_pos h
theorem atU_neg {n : Nat} {i : Int} (h : i < 0) : atU n i = 0 := if_neg (by omega)

def c_gfp_Poly_at : Cn := fn2 tU tZ (fun _ _ => True) fun xs i => .n .u64 (atU (pv xs) i)
noncomputable def cx_gfp_Poly_at : Cx := { T := T, E := E, cs := [], sch := [], ob := [], qs := [] }
@[go_sem] theorem cx_gfp_Poly_at_md : cx_gfp_Poly_at.md = 0 := rfl
@[go_sem] theorem cx_gfp_Poly_at_T : cx_gfp_Poly_at.T = T := rfl
@[go_sem] theorem cx_gfp_Poly_at_E : cx_gfp_Poly_at.E = E := rfl
@[go_sem] theorem cx_gfp_Poly_at_cs : cx_gfp_Poly_at.cs = [] := rfl
@[go_sem] theorem cx_gfp_Poly_at_ob (d : Nat) : (cx_gfp_Poly_at.ob).contains d = false := rfl
theorem cok_gfp_Poly_at : COk Try.prog (cx_gfp_Poly_at) := cok_of rfl (.nil) (.nil) (.nil)
theorem ok_gfp_Poly_at : Ok Try.prog 79 c_gfp_Poly_at := by
  refine ok_fn2 cok_gfp_Poly_at mixed Try.func79 rfl (by kernel_rfl) (by kernel_rfl) rfl ?_
  intro xs i om hw _
  have hx := (wf_u ⟨hw.1, trivial⟩).2
  simp only [go_sem, Try.f79, Nat.reduceEqDiff, Nat.reduceBEq, Int.reduceToNat, Nat.reducePow, Nat.reduceMod, Nat.reduceAdd, Nat.reduceSub, Nat.reduceMul, Nat.reduceDiv, Nat.reduceLeDiff, Int.reduceAdd, Int.reduceSub, Int.reduceMul, Int.reduceDiv, Int.reduceMod, Int.reduceLE, Int.reduceLT, Int.reduceNeg, Int.reduceEq, Int.cast_ofNat_Int, Int.natCast_zero, List.contains_cons, List.contains_nil, Bool.or_false, Bool.or_true, Bool.true_or, reduceCtorEq, or_false, or_true, false_or, true_or, and_false, false_and, ne_eq, List.take_zero, List.take_succ_cons, List.take_nil, List.drop_zero, List.drop_succ_cons, List.drop_nil, decide_true, decide_false]
  refine ⟨fun h1 => (atU_neg h1).symm, fun h1 => ⟨fun h2 => ?_, fun h2 => ⟨⟨by omega, by omega⟩, ?_⟩⟩⟩
  · rw [atU_pos (by omega), ← getD_pv hx, List.getD_eq_getElem?_getD, List.getElem?_eq_none (by omega)]; rfl
  · rw [atU_pos (by omega), ← getD_pv hx]

theorem trim_take (xs : List Nat) (k : Nat) (hk : k < xs.length) (h0 : xs.getD k 0 = 0) (h : trim xs = trim (xs.take (k + 1))) : trim xs = trim (xs.take k) := by
  rw [h]
  have e : xs.take (k + 1) = xs.take k ++ [0] := by
    rw [List.take_succ_eq_append_getElem hk]
    have : xs[k] = 0 := by simpa [List.getD, hk] using h0
    rw [this]
  unfold trim
  rw [e, List.reverse_append]
  simp

theorem trim_done (xs : List Nat) (k : Nat) (hk : k < xs.length) (h0 : xs.getD k 0 ≠ 0) : trim (xs.take (k + 1)) = xs.take (k + 1) := by
  have e : xs.take (k + 1) = xs.take k ++ [xs[k]] := List.take_succ_eq_append_getElem hk
  have h1 : xs[k] ≠ 0 := by simpa [List.getD, hk] using h0
  unfold trim
  rw [e, List.reverse_append]
  simp [h1]

def c_gfp_Own : Cn := fn1 tU (fun xs => xs.length ≤ 17592186044416) fun xs => vP (pv xs)
noncomputable def cx_gfp_Own : Cx := { T := T, E := E, cs := [(84, c_slices_Clone_gfp_Poly_uint64)], sch := [], ob := [], qs := [84] }
@[go_sem] theorem cx_gfp_Own_md : cx_gfp_Own.md = 0 := rfl
@[go_sem] theorem cx_gfp_Own_T : cx_gfp_Own.T = T := rfl
@[go_sem] theorem cx_gfp_Own_E : cx_gfp_Own.E = E := rfl
@[go_sem] theorem cx_gfp_Own_cs : cx_gfp_Own.cs = [(84, c_slices_Clone_gfp_Poly_uint64)] := rfl
@[go_sem] theorem cx_gfp_Own_ob (d : Nat) : (cx_gfp_Own.ob).contains d = false := rfl
theorem cok_gfp_Own : COk Try.prog (cx_gfp_Own) := cok_of rfl (.cons ok_slices_Clone_gfp_Poly_uint64 (.nil)) (.cons (fun _ => fn1_quiet) (.nil)) (.nil)
theorem ok_gfp_Own : Ok Try.prog 61 c_gfp_Own := by
  refine ok_fn1 cok_gfp_Own mixed Try.func61 rfl (by kernel_rfl) (by kernel_rfl) rfl ?_
  intro ys om hw hl
  have hx := (wf_u hw).2
  simp only [go_sem, Try.f61]
  rw [← trim_wd hx]
  refine ⟨Nat, fun k => ⟨[.sl (els (V.n .u64) ys), .u, .u, .z k, .u, .u, .u, .u, .u, .u, .u, .u, .u, .u, .u, .u, .u, .u, .u, .u, .u, .u], [], om⟩, fun k => k ≤ ys.length ∧ trim ys = trim (ys.take k), fun k => k, ⟨ys.length, ⟨Nat.le_refl _, by simp⟩, ?_⟩, ?_⟩
  · simp only [go_sem]
  · rintro k ⟨hk, ht⟩
    simp only [go_sem, Nat.reduceEqDiff, Nat.reduceBEq, Int.reduceToNat, Nat.reducePow, Nat.reduceMod, Nat.reduceAdd, Nat.reduceSub, Nat.reduceMul, Nat.reduceDiv, Nat.reduceLeDiff, Int.reduceAdd, Int.reduceSub, Int.reduceMul, Int.reduceDiv, Int.reduceMod, Int.reduceLE, Int.reduceLT, Int.reduceNeg, Int.reduceEq, Int.cast_ofNat_Int, Int.natCast_zero, List.contains_cons, List.contains_nil, Bool.or_false, Bool.or_true, Bool.true_or, reduceCtorEq, or_false, or_true, false_or, true_or, and_false, false_and, ne_eq, List.take_zero, List.take_succ_cons, List.take_nil, List.drop_zero, List.drop_succ_cons, List.drop_nil, decide_true, decide_false, c_slices_Clone_gfp_Poly_uint64, Int.reduceToNat, List.drop_zero]
    have hlen : (ys.take k).length ≤ 17592186044416 := by simp; omega
    refine ⟨fun h0 => ⟨by omega, by omega, fun h1 => ⟨by omega, k - 1, ⟨by omega, ?_⟩, by omega, by omega⟩, fun h1 => ⟨by omega, hlen, fun _ => ?_⟩⟩, fun h0 => ⟨by omega, hlen, fun _ => ?_⟩⟩
    · refine trim_take ys (k - 1) (by omega) ?_ ?_
      · rw [show ((k : Int) - 1).toNat = k - 1 by omega] at h1; exact h1
      · rw [show k - 1 + 1 = k by omega]; exact ht
    · have := trim_done ys (k - 1) (by omega) (by rw [show ((k : Int) - 1).toNat = k - 1 by omega] at h1; exact h1)
      rw [ht]
      rw [show k - 1 + 1 = k by omega] at this; exact this.symm
    · obtain rfl : k = 0 := by omega
      rw [ht]; rfl
end Go.Proofs.Ytaojebdjkpdcdaa.I
