/- Texts of the ideal machine, or of plain numbers, one behind the other: Gfp1, Gfp2, Gfp3, Gfdiv1, Gfdiv2. -/
import Derived.Test.YteomkgcepiecjaaGreatZM3
import Derived.Test.YteomkgcepiecjaaGreatZG1
/- gfp, from below: Len64, Clone, Poly.at, Own. -/
namespace Go.Proofs.YteomkgcepiecjaaGreat.I
open Go
open Nat renaming reduceEqDiff → kn1, reduceBEq → kn2, reducePow → kn3, reduceMod → kn4, reduceAdd → kn5, reduceSub → kn6, reduceMul → kn7, reduceDiv → kn8, reduceLeDiff → kn9, reduceLT → kn0, zero_lt_one → kq1, zero_add → kq2, zero_le → kq3, le_refl → kq4
open Int renaming reduceToNat → kz1, reduceAdd → kz2, reduceSub → kz3, reduceMul → kz4, reduceDiv → kz5, reduceMod → kz6, reduceLE → kz7, reduceLT → kz8, reduceNeg → kz9, reduceEq → kz0
set_option maxRecDepth 10000
set_option linter.unusedSimpArgs false
set_option linter.unusedVariables false
theorem bl_shr {x k : Nat} (h : 2 ^ k ≤ x) : bl x = k + bl (x >>> k) := by
  have key : ∀ n, bl x ≤ n ↔ k + bl (x >>> k) ≤ n := by
    intro n
    rw [bl_lt]
    by_cases hn : k ≤ n
    · have : k + bl (x >>> k) ≤ n ↔ bl (x >>> k) ≤ n - k := by omega
      rw [this, bl_lt, Nat.shiftRight_eq_div_pow, Nat.div_lt_iff_lt_mul (Nat.pow_pos (by omega)), ← Nat.pow_add]
      rw [show n - k + k = n by omega]
    · have h1 : ¬ x < 2 ^ n := by
        have := Nat.pow_le_pow_right (n := 2) (by omega) (show n ≤ k by omega); omega
      simp only [h1, false_iff]; omega
  have h1 := (key (bl x)).1 (Nat.le_refl _)
  have h2 := (key (k + bl (x >>> k))).2 (Nat.le_refl _)
  omega
@[go_sem] def c_math_bits_Len64 : Cn := fn1 (tN .u64) (fun _ => True) fun x => .z (bl x)
noncomputable def cx_math_bits_Len64 : Cx := { T := T, E := E, cs := [], sch := [], ob := [], qs := [] }
@[go_sem] theorem cx_math_bits_Len64_e : cx_math_bits_Len64.gs = none ∧ cx_math_bits_Len64.md = 0 ∧ cx_math_bits_Len64.T = T ∧ cx_math_bits_Len64.E = E ∧ cx_math_bits_Len64.cs = [] ∧ ∀ d, (cx_math_bits_Len64.ob).contains d = false := ⟨rfl, rfl, rfl, rfl, rfl, fun _ => rfl⟩
theorem cok_math_bits_Len64 : COk Tryz.prog (cx_math_bits_Len64) := cok_of rfl (.nil) (.nil) (.nil)
theorem ok_math_bits_Len64 : Ok Tryz.prog 140 c_math_bits_Len64 := by
  refine ok_fn1 cok_math_bits_Len64 mixed Tryz.func140 rfl (by kernel_rfl) (by kernel_rfl) rfl ?_
  intro x om hw _
  simp only [go_sem, Tryz.f140, Int.reduceToNat, Nat.reduceEqDiff, Nat.reduceBEq]
  generalize hT : ({ data := _ } : ByteArray) = tab
  have h1 : tab.size = 256 := by rw [← hT]; rfl
  have h2 : ∀ i, i < 256 → byteAt tab i = bl i := by rw [← hT]; decide
  clear hT
  have hx : x < 18446744073709551616 := by have := hw.1; simpa [tN, V.wf, IntKind.bits] using this
  have fin : ∀ (e : Int) (c y : Nat), e = c → c ≤ 64 → y < 256 → bl x = c + bl y →
      y % 2 ^ 8 < tab.size ∧ byteAt tab (y % 2 ^ 8) < 9223372036854775808 ∧ (-9223372036854775808 ≤ e + (byteAt tab (y % 2 ^ 8) : Int) ∧ e + (byteAt tab (y % 2 ^ 8) : Int) ≤ 9223372036854775807) ∧ e + (byteAt tab (y % 2 ^ 8) : Int) = bl x := by
    intro e c y he hc hy hb
    have h3 : bl y ≤ 8 := bl_lt.2 (by omega)
    have h4 : y % 2 ^ 8 = y := Nat.mod_eq_of_lt (by omega)
    rw [h4, h2 y hy, h1, he]
    refine ⟨hy, by omega, by omega, by omega⟩
  have sh : ∀ a b : Nat, a >>> b = a / 2 ^ b := fun a b => Nat.shiftRight_eq_div_pow a b
  refine ⟨fun a1 => ⟨fun a2 => ⟨by omega, fun a3 => ⟨by omega, ?_⟩, fun a3 => ?_⟩, fun a2 => ⟨fun a3 => ⟨by omega, ?_⟩, fun a3 => ?_⟩⟩, fun a1 => ⟨fun a2 => ⟨by omega, fun a3 => ⟨by omega, ?_⟩, fun a3 => ?_⟩, fun a2 => ⟨fun a3 => ⟨by omega, ?_⟩, fun a3 => ?_⟩⟩⟩
  · exact fin _ 56 _ rfl (by omega) (by simp only [sh] at *; omega) (by rw [bl_shr (k := 32) a1, bl_shr (k := 16) a2, bl_shr (k := 8) a3]; omega)
  · exact fin _ 48 _ rfl (by omega) (by simp only [sh] at *; omega) (by rw [bl_shr (k := 32) a1, bl_shr (k := 16) a2]; omega)
  · exact fin _ 40 _ rfl (by omega) (by simp only [sh] at *; omega) (by rw [bl_shr (k := 32) a1, bl_shr (k := 8) a3]; omega)
  · exact fin _ 32 _ rfl (by omega) (by simp only [sh] at *; omega) (by rw [bl_shr (k := 32) a1])
  · exact fin _ 24 _ rfl (by omega) (by simp only [sh] at *; omega) (by rw [bl_shr (k := 16) a2, bl_shr (k := 8) a3]; omega)
  · exact fin _ 16 _ rfl (by omega) (by simp only [sh] at *; omega) (by rw [bl_shr (k := 16) a2])
  · exact fin _ 8 _ rfl (by omega) (by simp only [sh] at *; omega) (by rw [bl_shr (k := 8) a3])
  · exact fin _ 0 _ rfl (by omega) (by omega) (by omega)
def vP (n : Nat) : V := .sl (els (V.n .u64) (wd n))
@[go_sem] theorem vP_eq (n : Nat) : vP n = .sl (els (V.n .u64) (wd n)) := rfl
attribute [go_sem] pv_wd wd_len wd_getD
@[go_sem] theorem wfs_wd (n : Nat) : wfs (els (V.n .u64) (wd n)) = True := eq_true ((wf_n .u64 _).2 (wd_lt n))
theorem pv_nil : pv [] = 0 := rfl
theorem pv_one (x : Nat) : pv [x] = x := by simp [pv]
@[go_sem] theorem wd_inj' (a b : Nat) : (wd a = wd b) = (a = b) := propext wd_inj
@[go_sem] theorem wd_nil' (a : Nat) : (wd a = []) = (a = 0) := propext wd_eq_nil
attribute [go_sem] wd_zero pv_nil pv_one
theorem pv_filled {n k m : Nat} (hk : k = n) (hn : bl m ≤ 64 * n) : pv (filled n k (wdAt m) 0) = m := by
  subst hk; rw [filled_all]; exact pv_map (bl_lt.1 hn) fun i _ => rfl
@[go_sem] def c_slices_Clone_gfp_Poly_uint64 : Cn := fn1 tU (fun xs => xs.length ≤ 17592186044416) fun xs => .sl (els (V.n .u64) xs)
noncomputable def cx_slices_Clone_gfp_Poly_uint64 : Cx := { T := T, E := E, cs := [], sch := [], ob := [], qs := [] }
@[go_sem] theorem cx_slices_Clone_gfp_Poly_uint64_e : cx_slices_Clone_gfp_Poly_uint64.gs = none ∧ cx_slices_Clone_gfp_Poly_uint64.md = 0 ∧ cx_slices_Clone_gfp_Poly_uint64.T = T ∧ cx_slices_Clone_gfp_Poly_uint64.E = E ∧ cx_slices_Clone_gfp_Poly_uint64.cs = [] ∧ ∀ d, (cx_slices_Clone_gfp_Poly_uint64.ob).contains d = false := ⟨rfl, rfl, rfl, rfl, rfl, fun _ => rfl⟩
theorem cok_slices_Clone_gfp_Poly_uint64 : COk Tryz.prog (cx_slices_Clone_gfp_Poly_uint64) := cok_of rfl (.nil) (.nil) (.nil)
theorem ok_slices_Clone_gfp_Poly_uint64 : Ok Tryz.prog 199 c_slices_Clone_gfp_Poly_uint64 := by
  refine ok_fn1 cok_slices_Clone_gfp_Poly_uint64 mixed Tryz.func199 rfl (by kernel_rfl) (by kernel_rfl) rfl ?_
  intro xs om hw hl
  simp only [go_sem, Tryz.f199, kn1, kn2, kn3, kn4, kn5, kn6, kn7, kn8, kn9, kz1, kz2, kz3, kz4, kz5, kz6, kz7, kz8, kz9, kz0, reduceCtorEq, String.reduceEq]
  exact ⟨fun e => e, by omega⟩
def atU (n : Nat) (i : Int) : Nat := if 0 ≤ i then wdAt n i.toNat else 0
theorem atU_pos {n : Nat} {i : Int} (h : 0 ≤ i) : atU n i = wdAt n i.toNat := if_pos h
theorem atU_neg {n : Nat} {i : Int} (h : i < 0) : atU n i = 0 := if_neg (by omega)
@[go_sem] def c_gfp_Poly_at : Cn := fn2 tU tZ (fun _ _ => True) fun xs i => .n .u64 (atU (pv xs) i)
noncomputable def cx_gfp_Poly_at : Cx := { T := T, E := E, cs := [], sch := [], ob := [], qs := [] }
@[go_sem] theorem cx_gfp_Poly_at_e : cx_gfp_Poly_at.gs = none ∧ cx_gfp_Poly_at.md = 0 ∧ cx_gfp_Poly_at.T = T ∧ cx_gfp_Poly_at.E = E ∧ cx_gfp_Poly_at.cs = [] ∧ ∀ d, (cx_gfp_Poly_at.ob).contains d = false := ⟨rfl, rfl, rfl, rfl, rfl, fun _ => rfl⟩
theorem cok_gfp_Poly_at : COk Tryz.prog (cx_gfp_Poly_at) := cok_of rfl (.nil) (.nil) (.nil)
theorem ok_gfp_Poly_at : Ok Tryz.prog 194 c_gfp_Poly_at := by
  refine ok_fn2 cok_gfp_Poly_at mixed Tryz.func194 rfl (by kernel_rfl) (by kernel_rfl) rfl ?_
  intro xs i om hw _
  have hx := (wf_u ⟨hw.1, trivial⟩).2
  simp only [go_sem, Tryz.f194, kn1, kn2, kn3, kn4, kn5, kn6, kn7, kn8, kn9, kz1, kz2, kz3, kz4, kz5, kz6, kz7, kz8, kz9, kz0, reduceCtorEq, String.reduceEq]
  refine ⟨fun h1 => (atU_neg h1).symm, fun h1 => ⟨fun h2 => ?_, fun h2 => ⟨⟨by omega, by omega⟩, ?_⟩⟩⟩
  · rw [atU_pos (by omega), ← getD_pv hx, List.getD_eq_getElem?_getD, List.getElem?_eq_none (by omega)]; rfl
  · rw [atU_pos (by omega), ← getD_pv hx]
theorem trim_take (xs : List Nat) (k : Nat) (hk : k < xs.length) (h0 : xs.getD k 0 = 0) (h : trim xs = trim (xs.take (k + 1))) : trim xs = trim (xs.take k) := by
  rw [h]
  have e : xs.take (k + 1) = xs.take k ++ [0] := by
    rw [List.take_succ_eq_append_getElem hk]
    have : xs[k] = 0 := by simpa [List.getD, hk] using h0
    rw [this]
  unfold trim
  rw [e, List.reverse_append]
  simp
theorem trim_done (xs : List Nat) (k : Nat) (hk : k < xs.length) (h0 : xs.getD k 0 ≠ 0) : trim (xs.take (k + 1)) = xs.take (k + 1) := by
  have e : xs.take (k + 1) = xs.take k ++ [xs[k]] := List.take_succ_eq_append_getElem hk
  have h1 : xs[k] ≠ 0 := by simpa [List.getD, hk] using h0
  unfold trim
  rw [e, List.reverse_append]
  simp [h1]
@[go_sem] def c_gfp_Own : Cn := fn1 tU (fun xs => xs.length ≤ 17592186044416) fun xs => vP (pv xs)
noncomputable def cx_gfp_Own : Cx := { T := T, E := E, cs := [(199, c_slices_Clone_gfp_Poly_uint64)], sch := [], ob := [], qs := [199] }
@[go_sem] theorem cx_gfp_Own_e : cx_gfp_Own.gs = none ∧ cx_gfp_Own.md = 0 ∧ cx_gfp_Own.T = T ∧ cx_gfp_Own.E = E ∧ cx_gfp_Own.cs = [(199, c_slices_Clone_gfp_Poly_uint64)] ∧ ∀ d, (cx_gfp_Own.ob).contains d = false := ⟨rfl, rfl, rfl, rfl, rfl, fun _ => rfl⟩
theorem cok_gfp_Own : COk Tryz.prog (cx_gfp_Own) := cok_of rfl (.cons ok_slices_Clone_gfp_Poly_uint64 (.nil)) (.cons (fun _ => fn1_quiet) (.nil)) (.nil)
theorem ok_gfp_Own : Ok Tryz.prog 193 c_gfp_Own := by
  refine ok_fn1 cok_gfp_Own mixed Tryz.func193 rfl (by kernel_rfl) (by kernel_rfl) rfl ?_
  intro ys om hw hl
  have hx := (wf_u hw).2
  simp only [go_sem, Tryz.f193]
  rw [← trim_wd hx]
  refine ⟨Nat, fun k => ⟨[.sl (els (V.n .u64) ys), .u, .u, .z k, .u, .u, .u, .u, .u, .u, .u, .u, .u, .u, .u, .u, .u, .u, .u, .u, .u, .u], [], om⟩, fun k => k ≤ ys.length ∧ trim ys = trim (ys.take k), fun k => k, ⟨ys.length, ⟨Nat.le_refl _, by simp⟩, ?_⟩, ?_⟩
  · simp only [go_sem]
  · rintro k ⟨hk, ht⟩
    simp only [go_sem, kn1, kn2, kn3, kn4, kn5, kn6, kn7, kn8, kn9, kz1, kz2, kz3, kz4, kz5, kz6, kz7, kz8, kz9, kz0, reduceCtorEq, String.reduceEq, Int.reduceToNat, List.drop_zero]
    have hlen : (ys.take k).length ≤ 17592186044416 := by simp; omega
    refine ⟨fun h0 => ⟨by omega, by omega, fun h1 => ⟨by omega, k - 1, ⟨by omega, ?_⟩, by omega, by omega⟩, fun h1 => ⟨by omega, hlen, fun _ => ?_⟩⟩, fun h0 => ⟨by omega, hlen, fun _ => ?_⟩⟩
    · refine trim_take ys (k - 1) (by omega) ?_ ?_
      · rw [show ((k : Int) - 1).toNat = k - 1 by omega] at h1; exact h1
      · rw [show k - 1 + 1 = k by omega]; exact ht
    · have := trim_done ys (k - 1) (by omega) (by rw [show ((k : Int) - 1).toNat = k - 1 by omega] at h1; exact h1)
      rw [ht]
      rw [show k - 1 + 1 = k by omega] at this; exact this.symm
    · obtain rfl : k = 0 := by omega
      rw [ht]; rfl
end Go.Proofs.YteomkgcepiecjaaGreat.I
/- gfp: Deg, Bit, Add, Same. -/
namespace Go.Proofs.YteomkgcepiecjaaGreat.I
open Go
open Nat renaming reduceEqDiff → kn1, reduceBEq → kn2, reducePow → kn3, reduceMod → kn4, reduceAdd → kn5, reduceSub → kn6, reduceMul → kn7, reduceDiv → kn8, reduceLeDiff → kn9, reduceLT → kn0, zero_lt_one → kq1, zero_add → kq2, zero_le → kq3, le_refl → kq4
open Int renaming reduceToNat → kz1, reduceAdd → kz2, reduceSub → kz3, reduceMul → kz4, reduceDiv → kz5, reduceMod → kz6, reduceLE → kz7, reduceLT → kz8, reduceNeg → kz9, reduceEq → kz0
set_option maxRecDepth 10000
set_option linter.unusedSimpArgs false
set_option linter.unusedVariables false
@[go_sem] def c_gfp_Deg : Cn := fn1 tU (fun xs => xs.length ≤ 17592186044416) fun xs => .z ((bl (pv xs) : Int) - 1)
noncomputable def cx_gfp_Deg : Cx := { T := T, E := E, cs := [(140, c_math_bits_Len64), (193, c_gfp_Own)], sch := [], ob := [], qs := [140, 193] }
@[go_sem] theorem cx_gfp_Deg_e : cx_gfp_Deg.gs = none ∧ cx_gfp_Deg.md = 0 ∧ cx_gfp_Deg.T = T ∧ cx_gfp_Deg.E = E ∧ cx_gfp_Deg.cs = [(140, c_math_bits_Len64), (193, c_gfp_Own)] ∧ ∀ d, (cx_gfp_Deg.ob).contains d = false := ⟨rfl, rfl, rfl, rfl, rfl, fun _ => rfl⟩
theorem cok_gfp_Deg : COk Tryz.prog (cx_gfp_Deg) := cok_of rfl (.cons ok_math_bits_Len64 (.cons ok_gfp_Own (.nil))) (.cons (fun _ => fn1_quiet) (.cons (fun _ => fn1_quiet) (.nil))) (.nil)
theorem ok_gfp_Deg : Ok Tryz.prog 188 c_gfp_Deg := by
  refine ok_fn1 cok_gfp_Deg mixed Tryz.func188 rfl (by kernel_rfl) (by kernel_rfl) rfl ?_
  intro ys om hw hl
  have hx := (wf_u hw).2
  have hb := bl_pv hx
  simp only [go_sem, Tryz.f188, kn1, kn2, kn3, kn4, kn5, kn6, kn7, kn8, kn9, kz1, kz2, kz3, kz4, kz5, kz6, kz7, kz8, kz9, kz0, reduceCtorEq, String.reduceEq]
  refine ⟨hl, fun _ => ⟨fun h0 => by omega, fun h0 => ?_⟩⟩
  have hn : pv ys ≠ 0 := by rintro e; rw [e] at h0; exact h0 rfl
  obtain ⟨h1, h2⟩ := bl_last hn
  rw [wd_len] at h1 h2
  rw [show (((bl (pv ys) + 63) / 64 : Nat) - 1 : Int).toNat = (bl (pv ys) + 63) / 64 - 1 by omega]
  have := (bl_lt (k := 64)).2 (wdAt_lt (pv ys) ((bl (pv ys) + 63) / 64 - 1))
  exact ⟨by omega, by omega, by omega, by omega, fun _ => ⟨by omega, by omega, by omega⟩⟩
def tb (n : Nat) (i : Int) : Int := if 0 ≤ i ∧ n.testBit i.toNat = true then 1 else 0
@[go_sem] def c_gfp_Bit : Cn := fn2 tU tZ (fun _ _ => True) fun xs i => .z (tb (pv xs) i)
noncomputable def cx_gfp_Bit : Cx := { T := T, E := E, cs := [(194, c_gfp_Poly_at)], sch := [], ob := [], qs := [194] }
@[go_sem] theorem cx_gfp_Bit_e : cx_gfp_Bit.gs = none ∧ cx_gfp_Bit.md = 0 ∧ cx_gfp_Bit.T = T ∧ cx_gfp_Bit.E = E ∧ cx_gfp_Bit.cs = [(194, c_gfp_Poly_at)] ∧ ∀ d, (cx_gfp_Bit.ob).contains d = false := ⟨rfl, rfl, rfl, rfl, rfl, fun _ => rfl⟩
theorem cok_gfp_Bit : COk Tryz.prog (cx_gfp_Bit) := cok_of rfl (.cons ok_gfp_Poly_at (.nil)) (.cons (fun _ => fn2_quiet) (.nil)) (.nil)
theorem ok_gfp_Bit : Ok Tryz.prog 189 c_gfp_Bit := by
  refine ok_fn2 cok_gfp_Bit mixed Tryz.func189 rfl (by kernel_rfl) (by kernel_rfl) rfl ?_
  intro ys i om hw _
  have hx := (wf_u ⟨hw.1, trivial⟩).2
  simp only [go_sem, Tryz.f189, kn1, kn2, kn3, kn4, kn5, kn6, kn7, kn8, kn9, kz1, kz2, kz3, kz4, kz5, kz6, kz7, kz8, kz9, kz0, reduceCtorEq, String.reduceEq]
  refine ⟨fun h => ?_, fun h => ⟨by omega, fun _ => ?_⟩⟩
  · unfold tb; rw [if_neg (by omega)]
  · obtain ⟨k, rfl⟩ := Int.eq_ofNat_of_zero_le (show 0 ≤ i by omega)
    have e : atU (pv ys) ((k : Int) / 64) >>> ((k : Int) % 64).toNat &&& 1 = if (pv ys).testBit k then 1 else 0 := by
      rw [atU_pos (by omega), show ((k : Int) / 64).toNat = k / 64 by omega, show ((k : Int) % 64).toNat = k % 64 by omega]
      have h1 : (wdAt (pv ys) (k / 64)).testBit (k % 64) = (pv ys).testBit k := by
        rw [testBit_wdAt, show 64 * (k / 64) + k % 64 = k by omega]
        have : k % 64 < 64 := by omega
        simp [this]
      rw [← h1, Nat.and_one_is_mod, Nat.shiftRight_eq_div_pow, Nat.testBit_eq_decide_div_mod_eq]
      simp only [decide_eq_true_eq]
      split <;> omega
    have hk : tb (pv ys) k = if (pv ys).testBit k then 1 else 0 := by unfold tb; simp
    rw [e, hk]
    refine ⟨by omega, by omega, by split <;> omega, by split <;> rfl⟩
@[go_sem] def c_gfp_Add : Cn := fn2 tU tU (fun xs ys => xs.length ≤ 4294967296 ∧ ys.length ≤ 4294967296) fun xs ys => vP (pv xs ^^^ pv ys)
noncomputable def cx_gfp_Add : Cx := { T := T, E := E, cs := [(193, c_gfp_Own), (194, c_gfp_Poly_at)], sch := [], ob := [], qs := [193, 194] }
@[go_sem] theorem cx_gfp_Add_e : cx_gfp_Add.gs = none ∧ cx_gfp_Add.md = 0 ∧ cx_gfp_Add.T = T ∧ cx_gfp_Add.E = E ∧ cx_gfp_Add.cs = [(193, c_gfp_Own), (194, c_gfp_Poly_at)] ∧ ∀ d, (cx_gfp_Add.ob).contains d = false := ⟨rfl, rfl, rfl, rfl, rfl, fun _ => rfl⟩
theorem cok_gfp_Add : COk Tryz.prog (cx_gfp_Add) := cok_of rfl (.cons ok_gfp_Own (.cons ok_gfp_Poly_at (.nil))) (.cons (fun _ => fn1_quiet) (.cons (fun _ => fn2_quiet) (.nil))) (.nil)
theorem ok_gfp_Add : Ok Tryz.prog 207 c_gfp_Add := by
  refine ok_fn2 cok_gfp_Add mixed Tryz.func207 rfl (by kernel_rfl) (by kernel_rfl) rfl ?_
  intro xs ys om hw ⟨hl1, hl2⟩
  have hx := (wf_u ⟨hw.1, trivial⟩).2
  have hy := (wf_u ⟨hw.2.1, trivial⟩).2
  simp only [go_sem, Tryz.f207]
  have hm : (max (xs.length : Int) ys.length).toNat = max xs.length ys.length := by omega
  generalize hn : max xs.length ys.length = n at *
  rw [hm]
  refine ⟨⟨by omega, by omega, by omega, by omega⟩, ?_⟩
  have hb : bl (pv xs ^^^ pv ys) ≤ 64 * n := by have := bl_xor_le (pv xs) (pv ys); have := bl_pv hx; have := bl_pv hy; omega
  refine ⟨Nat, fun k => ⟨[.sl (els (V.n .u64) xs), .sl (els (V.n .u64) ys), .u, .u, .u, .row 12 n n, .u, .u, .u, .u, .u, .u, .u, .u, .z n, .z k, .u, .u, .u, .u, .u, .u, .u, .u, .u, .u, .u, .u, .u, .u, .u], [(12, ⟨1, false, els (V.n .u64) (filled n k (wdAt (pv xs ^^^ pv ys)) 0), false⟩)], om⟩, fun k => k ≤ n, fun k => n - k, ⟨0, by omega, ?_⟩, ?_⟩
  · simp only [go_sem, filled_zero, kn1, kn2, kn3, kn4, kn5, kn6, kn7, kn8, kn9, kz1, kz2, kz3, kz4, kz5, kz6, kz7, kz8, kz9, kz0, reduceCtorEq, String.reduceEq]
  · intro k hk
    simp only [go_sem, kn1, kn2, kn3, kn4, kn5, kn6, kn7, kn8, kn9, kz1, kz2, kz3, kz4, kz5, kz6, kz7, kz8, kz9, kz0, reduceCtorEq, String.reduceEq]
    refine ⟨fun h _ _ => ⟨by omega, by omega, by omega, k + 1, by omega, ⟨by omega, ?_⟩, by omega⟩, fun h => ⟨by omega, fun _ => pv_filled (by omega) hb⟩⟩
    rw [atU_pos (by omega), atU_pos (by omega), Int.toNat_natCast, ← wdAt_xor, filled_set]
end Go.Proofs.YteomkgcepiecjaaGreat.I
/- gfp: Words, Mul, Square, Up, X. -/
namespace Go.Proofs.YteomkgcepiecjaaGreat.I
open Go
open Nat renaming reduceEqDiff → kn1, reduceBEq → kn2, reducePow → kn3, reduceMod → kn4, reduceAdd → kn5, reduceSub → kn6, reduceMul → kn7, reduceDiv → kn8, reduceLeDiff → kn9, reduceLT → kn0, zero_lt_one → kq1, zero_add → kq2, zero_le → kq3, le_refl → kq4
open Int renaming reduceToNat → kz1, reduceAdd → kz2, reduceSub → kz3, reduceMul → kz4, reduceDiv → kz5, reduceMod → kz6, reduceLE → kz7, reduceLT → kz8, reduceNeg → kz9, reduceEq → kz0
set_option maxRecDepth 10000
set_option linter.unusedSimpArgs false
set_option linter.unusedVariables false
attribute [go_sem] wds_len wds_take
@[go_sem] def c_gfp_Words : Cn := fn2 (tN .u64) (tN .u64) (fun _ _ => True) fun x y => .tup [.n .u64 (wdAt (cm x y) 1), .n .u64 (wdAt (cm x y) 0)]
noncomputable def cx_gfp_Words : Cx := { T := T, E := E, cs := [], sch := [], ob := [], qs := [] }
@[go_sem] theorem cx_gfp_Words_e : cx_gfp_Words.gs = none ∧ cx_gfp_Words.md = 0 ∧ cx_gfp_Words.T = T ∧ cx_gfp_Words.E = E ∧ cx_gfp_Words.cs = [] ∧ ∀ d, (cx_gfp_Words.ob).contains d = false := ⟨rfl, rfl, rfl, rfl, rfl, fun _ => rfl⟩
theorem cok_gfp_Words : COk Tryz.prog (cx_gfp_Words) := cok_of rfl (.nil) (.nil) (.nil)
theorem ok_gfp_Words : Ok Tryz.prog 218 c_gfp_Words := by
  refine ok_fn2 cok_gfp_Words mixed Tryz.func218 rfl (by kernel_rfl) (by kernel_rfl) rfl ?_
  intro a b om hw _
  have ha : a < 18446744073709551616 := by have := hw.1; simpa [tN, V.wf, IntKind.bits] using this
  have hb : b < 18446744073709551616 := by have := hw.2.1; simpa [tN, V.wf, IntKind.bits] using this
  simp only [go_sem, Tryz.f218, kn1, kn2, kn3, kn4, kn5, kn6, kn7, kn8, kn9, kz1, kz2, kz3, kz4, kz5, kz6, kz7, kz8, kz9, kz0, reduceCtorEq, String.reduceEq]
  refine ⟨Nat, fun k => ⟨[.n .u64 a, .n .u64 b, .u, .u, .u, .u, .n .u64 (wdAt (cm a (b % 2 ^ k)) 1), .n .u64 (wdAt (cm a (b % 2 ^ k)) 0), .u, .z k, .u, .u, .u, .u, .u, .u, .u, .u, .u, .u, .u, .u, .u, .u, .u, .u, .u, .u, .u, .u, .u], [], om⟩, fun k => k ≤ 64, fun k => 64 - k, ⟨0, by omega, ?_⟩, ?_⟩
  · simp only [go_sem, kn1, kn2, kn3, kn4, kn5, kn6, kn7, kn8, kn9, kz1, kz2, kz3, kz4, kz5, kz6, kz7, kz8, kz9, kz0, reduceCtorEq, String.reduceEq, Nat.pow_zero, Nat.mod_one, cm_zero_right, wdAt_zero_left]
  · intro k hk
    simp only [go_sem, kn1, kn2, kn3, kn4, kn5, kn6, kn7, kn8, kn9, kz1, kz2, kz3, kz4, kz5, kz6, kz7, kz8, kz9, kz0, reduceCtorEq, String.reduceEq, shr_and]
    have e1 : k < 64 → (64 - (k : Int)).toNat = 64 - k := fun h => by omega
    have h1 : k < 64 → b.testBit k = true → wdAt (cm a (b % 2 ^ k)) 1 ^^^ a >>> (64 - k) = wdAt (cm a (b % 2 ^ (k + 1))) 1 := fun h hb => by
      rw [cm_mod_succ, wdAt_xor, hb, if_pos rfl, hi_shl ha (by omega)]
    have h2 : b.testBit k = true → wdAt (cm a (b % 2 ^ k)) 0 ^^^ a <<< k % 18446744073709551616 = wdAt (cm a (b % 2 ^ (k + 1))) 0 := fun hb => by
      rw [cm_mod_succ, wdAt_xor, hb, if_pos rfl, lo_shl]
    have h3 : b.testBit k = false → cm a (b % 2 ^ (k + 1)) = cm a (b % 2 ^ k) := fun hb => by
      rw [cm_mod_succ, hb]; simp
    refine ⟨fun h => ⟨by omega, fun hb => ⟨by omega, by omega, by omega, by omega, k + 1, by omega, ⟨?_, ?_, by omega⟩, by omega⟩, fun hb => ⟨by omega, k + 1, by omega, ⟨?_, ?_, by omega⟩, by omega⟩⟩, fun h => ?_⟩
    · rw [e1 (by omega)]; exact h1 (by omega) (by simpa using hb)
    · exact h2 (by simpa using hb)
    · rw [h3 (by simpa using hb)]
    · rw [h3 (by simpa using hb)]
    · obtain rfl : k = 64 := by omega
      rw [Nat.mod_eq_of_lt hb]; exact ⟨rfl, rfl⟩
@[go_sem] def c_gfp_Mul : Cn := fn2 tU tU (fun xs ys => xs.length ≤ 4294967296 ∧ ys.length ≤ 4294967296) fun xs ys => vP (cm (pv xs) (pv ys))
noncomputable def cx_gfp_Mul : Cx := { T := T, E := E, cs := [(193, c_gfp_Own), (218, c_gfp_Words)], sch := [], ob := [], qs := [193, 218] }
@[go_sem] theorem cx_gfp_Mul_e : cx_gfp_Mul.gs = none ∧ cx_gfp_Mul.md = 0 ∧ cx_gfp_Mul.T = T ∧ cx_gfp_Mul.E = E ∧ cx_gfp_Mul.cs = [(193, c_gfp_Own), (218, c_gfp_Words)] ∧ ∀ d, (cx_gfp_Mul.ob).contains d = false := ⟨rfl, rfl, rfl, rfl, rfl, fun _ => rfl⟩
theorem cok_gfp_Mul : COk Tryz.prog (cx_gfp_Mul) := cok_of rfl (.cons ok_gfp_Own (.cons ok_gfp_Words (.nil))) (.cons (fun _ => fn1_quiet) (.cons (fun _ => fn2_quiet) (.nil))) (.nil)
theorem ok_gfp_Mul : Ok Tryz.prog 213 c_gfp_Mul := by
  refine ok_fn2 cok_gfp_Mul mixed Tryz.func213 rfl (by kernel_rfl) (by kernel_rfl) rfl ?_
  intro xs ys om hw ⟨hl1, hl2⟩
  have hx := (wf_u ⟨hw.1, trivial⟩).2
  have hy := (wf_u ⟨hw.2.1, trivial⟩).2
  simp only [go_sem, Tryz.f213, kn1, kn2, kn3, kn4, kn5, kn6, kn7, kn8, kn9, kz1, kz2, kz3, kz4, kz5, kz6, kz7, kz8, kz9, kz0, reduceCtorEq, String.reduceEq]
  obtain ⟨n, hn⟩ : ∃ n, xs.length + ys.length = n := ⟨_, rfl⟩
  have hn' : ((xs.length : Int) + ys.length).toNat = n := by omega
  rw [hn']
  refine ⟨by omega, by omega, ?_⟩
  refine ⟨Nat, fun i => ⟨[.sl (els (V.n .u64) xs), .sl (els (V.n .u64) ys), .u, .u, .u, .row 17 n n, .u, .u, .u, .u, .u, .u, .u, .u, .u, .u, .u, .u, .sl (els (V.n .u64) xs), .z xs.length, .z i, .u, .u, .u, .u, .u, .u, .u, .u, .u, .u, .u, .u, .u, .u, .u, .u, .u, .u, .u, .u, .u, .u, .u, .u, .u, .u, .u, .u, .u, .u, .u, .u, .u, .u, .u, .u, .u, .u, .u, .u, .u, .u], [(17, ⟨1, false, els (V.n .u64) (wds n (cm (pv (xs.take i)) (pv ys))), false⟩)], om⟩, fun i => i ≤ xs.length, fun i => xs.length - i, ⟨0, by omega, ?_⟩, ?_⟩
  · simp only [go_sem, kn1, kn2, kn3, kn4, kn5, kn6, kn7, kn8, kn9, kz1, kz2, kz3, kz4, kz5, kz6, kz7, kz8, kz9, kz0, reduceCtorEq, String.reduceEq, wds_zero, List.take_zero, cm_zero_left]
  · intro i hi
    simp only [go_sem, kn1, kn2, kn3, kn4, kn5, kn6, kn7, kn8, kn9, kz1, kz2, kz3, kz4, kz5, kz6, kz7, kz8, kz9, kz0, reduceCtorEq, String.reduceEq]
    refine ⟨fun hlt => ⟨⟨by omega, by omega⟩, ?_⟩, fun hge => ?_⟩
    · have hxi : xs.getD i 0 < 18446744073709551616 := by rw [getD_pv hx]; exact wdAt_lt _ _
      obtain ⟨x, hxx⟩ : ∃ x, xs.getD i 0 = x := ⟨_, rfl⟩
      rw [hxx]
      rw [hxx] at hxi
      obtain ⟨M, hM⟩ : ∃ M, cm (pv (xs.take i)) (pv ys) = M := ⟨_, rfl⟩
      have hM1 : cm (pv (xs.take (i + 1))) (pv ys) = M ^^^ (cm x (pv ys)) <<< (64 * i) := by
        rw [pv_take_succ hx (by omega), cm_xor_left, hM, hxx, cm_shl_left]
      rw [hM]
      refine ⟨Nat, fun k => ⟨[.sl (els (V.n .u64) xs), .sl (els (V.n .u64) ys), .u, .u, .u, .row 17 n n, .z i, .n .u64 x, .u, .u, .u, .u, .u, .u, .u, .u, .u, .u, .sl (els (V.n .u64) xs), .z xs.length, .z i, .u, .u, .u, .u, .sl (els (V.n .u64) ys), .z ys.length, .z k, .u, .u, .u, .u, .u, .u, .u, .u, .u, .u, .u, .u, .u, .u, .u, .u, .u, .u, .u, .u, .u, .u, .u, .u, .u, .u, .u, .u, .u, .u, .u, .u, .u, .u, .u], [(17, ⟨1, false, els (V.n .u64) (wds n (M ^^^ (cm x (pv (ys.take k))) <<< (64 * i))), false⟩)], om⟩, fun k => k ≤ ys.length, fun k => ys.length - k, ⟨0, by omega, ?_⟩, ?_⟩
      · simp only [go_sem, kn1, kn2, kn3, kn4, kn5, kn6, kn7, kn8, kn9, kz1, kz2, kz3, kz4, kz5, kz6, kz7, kz8, kz9, kz0, reduceCtorEq, String.reduceEq, List.take_zero, cm_zero_right, Nat.zero_shiftLeft, Nat.xor_zero]
      · intro k hk
        simp only [go_sem, kn1, kn2, kn3, kn4, kn5, kn6, kn7, kn8, kn9, kz1, kz2, kz3, kz4, kz5, kz6, kz7, kz8, kz9, kz0, reduceCtorEq, String.reduceEq]
        have e1 : ((i : Int) + k).toNat = i + k := by omega
        have e2 : ((i : Int) + k + 1).toNat = i + k + 1 := by omega
        rw [e1, e2]
        refine ⟨fun hlt => ⟨by omega, fun h0 => ⟨by omega, i + 1, by omega, ⟨by omega, ?_⟩, by omega⟩, fun h0 _ => ?_⟩, fun hge => ⟨by omega, i + 1, by omega, ⟨by omega, ?_⟩, by omega⟩⟩
        · rw [hM1, h0, cm_zero_left, cm_zero_left]
        · have hlen : (wds n (M ^^^ cm x (pv (ys.take k)) <<< (64 * i))).length = n := wds_len _ _
          rw [wds_upd (by omega) (wdAt_lt _ _), wds_upd (by omega) (wdAt_lt _ _), wds_len]
          refine ⟨by omega, by omega, by omega, by omega, by omega, by omega, by omega, by omega, by omega, by omega, by omega, by omega, k + 1, by omega, ⟨by omega, ?_⟩, by omega⟩
          have hyk : ys.getD k 0 < 18446744073709551616 := by rw [getD_pv hy]; exact wdAt_lt _ _
          rw [pv_take_succ hy (by omega), cm_xor_right, shl_xor, cm_shl_right]
          obtain ⟨y, hyy⟩ : ∃ y, ys.getD k 0 = y := ⟨_, rfl⟩
          rw [hyy] at hyk ⊢
          have hx2 : bl x ≤ 64 := bl_lt.2 hxi
          have hy2 : bl y ≤ 64 := bl_lt.2 hyk
          have := two_words (n := cm x y) (by have := bl_cm_le x y; omega)
          conv => rhs; rw [this]
          congr 1
          rw [shl_xor, shl_xor, ← Nat.shiftLeft_add, ← Nat.shiftLeft_add, ← Nat.shiftLeft_add, show 64 * k + 64 * i = 64 * (i + k) by omega, show 64 + 64 * (i + k) = 64 * (i + k + 1) by omega]
          ac_rfl
        · obtain rfl : k = ys.length := by omega
          rw [hM1, List.take_length]
    · obtain rfl : i = xs.length := by omega
      rw [List.take_length, pv_wds]
      · exact ⟨by omega, fun _ => rfl⟩
      · have := bl_cm_le (pv xs) (pv ys); have := bl_pv hx; have := bl_pv hy; omega
@[go_sem] def c_gfp_Square : Cn := fn1 tU (fun xs => xs.length ≤ 4294967296) fun xs => vP (cm (pv xs) (pv xs))
noncomputable def cx_gfp_Square : Cx := { T := T, E := E, cs := [(193, c_gfp_Own), (218, c_gfp_Words)], sch := [], ob := [], qs := [193, 218] }
@[go_sem] theorem cx_gfp_Square_e : cx_gfp_Square.gs = none ∧ cx_gfp_Square.md = 0 ∧ cx_gfp_Square.T = T ∧ cx_gfp_Square.E = E ∧ cx_gfp_Square.cs = [(193, c_gfp_Own), (218, c_gfp_Words)] ∧ ∀ d, (cx_gfp_Square.ob).contains d = false := ⟨rfl, rfl, rfl, rfl, rfl, fun _ => rfl⟩
theorem cok_gfp_Square : COk Tryz.prog (cx_gfp_Square) := cok_of rfl (.cons ok_gfp_Own (.cons ok_gfp_Words (.nil))) (.cons (fun _ => fn1_quiet) (.cons (fun _ => fn2_quiet) (.nil))) (.nil)
theorem ok_gfp_Square : Ok Tryz.prog 212 c_gfp_Square := by
  refine ok_fn1 cok_gfp_Square mixed Tryz.func212 rfl (by kernel_rfl) (by kernel_rfl) rfl ?_
  intro xs om hw hl
  have hx := (wf_u hw).2
  simp only [go_sem, Tryz.f212, kn1, kn2, kn3, kn4, kn5, kn6, kn7, kn8, kn9, kz1, kz2, kz3, kz4, kz5, kz6, kz7, kz8, kz9, kz0, reduceCtorEq, String.reduceEq]
  obtain ⟨n, hn⟩ : ∃ n, 2 * xs.length = n := ⟨_, rfl⟩
  have hn' : (2 * (xs.length : Int)).toNat = n := by omega
  rw [hn']
  refine ⟨by omega, by omega, ?_⟩
  refine ⟨Nat, fun i => ⟨[.sl (els (V.n .u64) xs), .u, .u, .row 9 n n, .u, .u, .u, .u, .u, .u, .sl (els (V.n .u64) xs), .z xs.length, .z i, .u, .u, .u, .u, .u, .u, .u, .u, .u, .u, .u, .u, .u, .u, .u, .u, .u, .u, .u, .u, .u, .u], [(9, ⟨1, false, els (V.n .u64) (wds n (cm (pv (xs.take i)) (pv (xs.take i)))), false⟩)], om⟩, fun i => i ≤ xs.length, fun i => xs.length - i, ⟨0, by omega, ?_⟩, ?_⟩
  · simp only [go_sem, kn1, kn2, kn3, kn4, kn5, kn6, kn7, kn8, kn9, kz1, kz2, kz3, kz4, kz5, kz6, kz7, kz8, kz9, kz0, reduceCtorEq, String.reduceEq, wds_zero, List.take_zero, cm_zero_left]
  · intro i hi
    simp only [go_sem, kn1, kn2, kn3, kn4, kn5, kn6, kn7, kn8, kn9, kz1, kz2, kz3, kz4, kz5, kz6, kz7, kz8, kz9, kz0, reduceCtorEq, String.reduceEq]
    have e1 : (2 * (i : Int) + 1).toNat = 2 * i + 1 := by omega
    have e2 : (2 * (i : Int)).toNat = 2 * i := by omega
    rw [e1, e2]
    refine ⟨fun h => ⟨by omega, by omega, by omega, by omega, fun _ => ⟨by omega, by omega, ⟨by simp [wds_len], by omega⟩, ⟨by simp [wds_len], by omega⟩, by omega, i + 1, by omega, ⟨by omega, ?_⟩, by omega⟩⟩, fun h => ?_⟩
    · have hxi : xs.getD i 0 < 18446744073709551616 := by rw [getD_pv hx]; exact wdAt_lt _ _
      obtain ⟨x, hxx⟩ : ∃ x, xs.getD i 0 = x := ⟨_, rfl⟩
      obtain ⟨A, hA⟩ : ∃ A, pv (xs.take i) = A := ⟨_, rfl⟩
      have hA1 : bl A ≤ 64 * i := by rw [← hA]; have := bl_pv (take_lt hx i); simp at this; omega
      have hAA : bl (cm A A) ≤ 128 * i := by have := bl_cm_le A A; omega
      have z : ∀ j, 2 * i ≤ j → wdAt (cm A A) j = 0 := fun j hj => by
        unfold wdAt
        rw [Nat.div_eq_of_lt]
        exact bl_lt.1 (by omega)
      rw [pv_take_succ hx (by omega), hA, hxx, cm_sq_xor, cm_shl_left, cm_shl_right, ← Nat.shiftLeft_add]
      rw [hxx] at hxi
      have hxx2 : bl x ≤ 64 := bl_lt.2 hxi
      have := two_words (n := cm x x) (by have := bl_cm_le x x; omega)
      rw [show (cm x x) <<< (64 * i + 64 * i) = (wdAt (cm x x) 0) <<< (64 * (2 * i)) ^^^ (wdAt (cm x x) 1) <<< (64 * (2 * i + 1)) by
        conv => lhs; rw [this]
        rw [shl_xor, ← Nat.shiftLeft_add, show 64 + (64 * i + 64 * i) = 64 * (2 * i + 1) by omega, show 64 * i + 64 * i = 64 * (2 * i) by omega]]
      have s1 := wds_set n (cm A A) (2 * i + 1) (wdAt (cm x x) 1) (by omega) (wdAt_lt _ _)
      rw [z _ (by omega), Nat.zero_xor] at s1
      rw [s1]
      have s2 := wds_set n (cm A A ^^^ wdAt (cm x x) 1 <<< (64 * (2 * i + 1))) (2 * i) (wdAt (cm x x) 0) (by omega) (wdAt_lt _ _)
      rw [wdAt_xor, z _ (by omega), wdAt_shl_words _ _ _ (wdAt_lt _ _), if_neg (by omega), Nat.xor_self, Nat.zero_xor] at s2
      rw [s2]
      congr 1; ac_rfl
    · obtain rfl : i = xs.length := by omega
      rw [List.take_length, pv_wds]
      · exact ⟨by omega, fun _ => rfl⟩
      · have := bl_cm_le (pv xs) (pv xs); have := bl_pv hx; omega
def upP (m : Nat) (n : Int) : Nat := if 0 ≤ n ∧ n ≤ 2048 then m <<< n.toNat else 0
@[go_sem] def c_gfp_Up : Cn := fn2 tU tZ (fun xs _ => xs.length ≤ 4294967296) fun xs n => vP (upP (pv xs) n)
noncomputable def cx_gfp_Up : Cx := { T := T, E := E, cs := [(193, c_gfp_Own), (194, c_gfp_Poly_at)], sch := [(9, false, .take 0 (.take 1 (.take 2 (.take 3 (.take 5 (.take 7 (.take 8 (.take 9 (.take 11 (.take 12 (.alt 4 (.take 6 (.alt 10 (.take 13 (.take 14 (.take 15 (.alt 16 (.done) .no)))) .no)) .no)))))))))))], ob := [], qs := [193, 194] }
@[go_sem] theorem cx_gfp_Up_e : cx_gfp_Up.gs = none ∧ cx_gfp_Up.md = 0 ∧ cx_gfp_Up.T = T ∧ cx_gfp_Up.E = E ∧ cx_gfp_Up.cs = [(193, c_gfp_Own), (194, c_gfp_Poly_at)] ∧ cx_gfp_Up.sch = [(9, false, .take 0 (.take 1 (.take 2 (.take 3 (.take 5 (.take 7 (.take 8 (.take 9 (.take 11 (.take 12 (.alt 4 (.take 6 (.alt 10 (.take 13 (.take 14 (.take 15 (.alt 16 (.done) .no)))) .no)) .no)))))))))))] ∧ ∀ d, (cx_gfp_Up.ob).contains d = false := ⟨rfl, rfl, rfl, rfl, rfl, rfl, fun _ => rfl⟩
theorem cok_gfp_Up : COk Tryz.prog (cx_gfp_Up) := cok_of rfl (.cons ok_gfp_Own (.cons ok_gfp_Poly_at (.nil))) (.cons (fun _ => fn1_quiet) (.cons (fun _ => fn2_quiet) (.nil))) (.nil)
theorem ok_gfp_Up : Ok Tryz.prog 204 c_gfp_Up := by
  refine ok_fn2 cok_gfp_Up mixed Tryz.func204 rfl (by kernel_rfl) (by kernel_rfl) rfl ?_
  intro xs n om hw hl
  have hx := (wf_u ⟨hw.1, trivial⟩).2
  simp only [go_sem, Tryz.f204, kn1, kn2, kn3, kn4, kn5, kn6, kn7, kn8, kn9, kz1, kz2, kz3, kz4, kz5, kz6, kz7, kz8, kz9, kz0, reduceCtorEq, String.reduceEq]
  refine ⟨fun h => by unfold upP; rw [if_neg (by omega)], fun h0 => ⟨fun h => by unfold upP; rw [if_neg (by omega)], fun h1 => ?_⟩⟩
  obtain ⟨s, rfl⟩ := Int.eq_ofNat_of_zero_le (show 0 ≤ n by omega)
  obtain ⟨n, hn⟩ : ∃ n, xs.length + s / 64 + 1 = n := ⟨_, rfl⟩
  have hn' : ((xs.length : Int) + (s : Int) / 64 + 1).toNat = n := by omega
  have hu : upP (pv xs) s = pv xs <<< s := by unfold upP; rw [if_pos (by omega)]; rfl
  have hb : bl (pv xs <<< s) ≤ 64 * n := by
    by_cases h : pv xs = 0
    · rw [h]; simp [bl_zero]
    · rw [bl_shl h]; have := bl_pv hx; omega
  rw [hn', hu]
  refine ⟨by omega, by omega, by omega, by omega, by omega, ?_⟩
  refine ⟨Nat, fun k => ⟨[.sl (els (V.n .u64) xs), .z s, .u, .u, .u, .row 22 n n, V.fn (Fn.func 194) [V.sl (els (V.n IntKind.u64) xs)] [], .z ((s : Int) % 64), .u, .u, .u, .u, .u, .u, .u, .u, .u, .u, .u, .u, .u, .u, .u, .u, .u, .u, .u, .u, .z n, .z k, .u, .u, .u, .u, .u, .u, .u, .u, .u, .u, .u, .u, .u, .u, .u, .u, .u, .u, .u, .u, .u, .u, .u, .u, .u], [(22, ⟨1, false, els (V.n .u64) (filled n k (wdAt (pv xs <<< s)) 0), false⟩)], om⟩, fun i => i ≤ n, fun i => n - i, ⟨0, by omega, ?_⟩, ?_⟩
  · simp only [go_sem, kn1, kn2, kn3, kn4, kn5, kn6, kn7, kn8, kn9, kz1, kz2, kz3, kz4, kz5, kz6, kz7, kz8, kz9, kz0, reduceCtorEq, String.reduceEq, filled_zero]
  · intro k hk
    simp only [go_sem, kn1, kn2, kn3, kn4, kn5, kn6, kn7, kn8, kn9, kz1, kz2, kz3, kz4, kz5, kz6, kz7, kz8, kz9, kz0, reduceCtorEq, String.reduceEq]
    refine ⟨fun h => ⟨by omega, by omega, by omega, by omega, fun _ => ⟨by omega, fun _ => ⟨by omega, by omega, by omega, by omega, k + 1, by omega, ⟨by omega, ?_⟩, by omega⟩⟩⟩, fun h => ⟨by omega, fun _ => pv_filled (by omega) hb⟩⟩
    rw [← filled_set, wdAt_shl]
    congr 1
    rw [show ((s : Int) % 64).toNat = s % 64 by omega, show (64 - (s : Int) % 64).toNat = 64 - s % 64 by omega]
    congr 1
    · congr 2
      unfold atU
      by_cases h2 : s / 64 ≤ k
      · rw [if_pos h2, if_pos (by omega)]; congr 1; omega
      · rw [if_neg h2, if_neg (by omega)]
    · congr 1
      unfold atU
      by_cases h2 : s / 64 + 1 ≤ k
      · rw [if_pos h2, if_pos (by omega)]; congr 1; omega
      · rw [if_neg h2, if_neg (by omega)]
@[go_sem] def c_gfp_X : Cn := fn1 tZ (fun _ => True) fun n => vP (upP 1 n)
noncomputable def cx_gfp_X : Cx := { T := T, E := E, cs := [(204, c_gfp_Up)], sch := [], ob := [], qs := [204] }
@[go_sem] theorem cx_gfp_X_e : cx_gfp_X.gs = none ∧ cx_gfp_X.md = 0 ∧ cx_gfp_X.T = T ∧ cx_gfp_X.E = E ∧ cx_gfp_X.cs = [(204, c_gfp_Up)] ∧ ∀ d, (cx_gfp_X.ob).contains d = false := ⟨rfl, rfl, rfl, rfl, rfl, fun _ => rfl⟩
theorem cok_gfp_X : COk Tryz.prog (cx_gfp_X) := cok_of rfl (.cons ok_gfp_Up (.nil)) (.cons (fun _ => fn2_quiet) (.nil)) (.nil)
theorem ok_gfp_X : Ok Tryz.prog 196 c_gfp_X := by
  refine ok_fn1 cok_gfp_X mixed Tryz.func196 rfl (by kernel_rfl) (by kernel_rfl) rfl ?_
  intro n om hw _
  simp only [go_sem, Tryz.f196, kn1, kn2, kn3, kn4, kn5, kn6, kn7, kn8, kn9, kz1, kz2, kz3, kz4, kz5, kz6, kz7, kz8, kz9, kz0, reduceCtorEq, String.reduceEq]
  trivial
end Go.Proofs.YteomkgcepiecjaaGreat.I
/- gfdiv: lift, parts, Div, Mod, MulMod. -/
namespace Go.Proofs.YteomkgcepiecjaaGreat.I
open Go
open Nat renaming reduceEqDiff → kn1, reduceBEq → kn2, reducePow → kn3, reduceMod → kn4, reduceAdd → kn5, reduceSub → kn6, reduceMul → kn7, reduceDiv → kn8, reduceLeDiff → kn9, reduceLT → kn0, zero_lt_one → kq1, zero_add → kq2, zero_le → kq3, le_refl → kq4
open Int renaming reduceToNat → kz1, reduceAdd → kz2, reduceSub → kz3, reduceMul → kz4, reduceDiv → kz5, reduceMod → kz6, reduceLE → kz7, reduceLT → kz8, reduceNeg → kz9, reduceEq → kz0
set_option maxRecDepth 10000
set_option linter.unusedSimpArgs false
set_option linter.unusedVariables false
@[go_sem] def c_gfdiv_lift : Cn := fn2 tU tZ (fun xs n => xs.length ≤ 1073741824 ∧ 0 ≤ n ∧ n ≤ 68719476736) fun xs n => vP (pv xs <<< n.toNat)
noncomputable def cx_gfdiv_lift : Cx := { T := T, E := E, cs := [(204, c_gfp_Up)], sch := [], ob := [], qs := [204] }
@[go_sem] theorem cx_gfdiv_lift_e : cx_gfdiv_lift.gs = none ∧ cx_gfdiv_lift.md = 0 ∧ cx_gfdiv_lift.T = T ∧ cx_gfdiv_lift.E = E ∧ cx_gfdiv_lift.cs = [(204, c_gfp_Up)] ∧ ∀ d, (cx_gfdiv_lift.ob).contains d = false := ⟨rfl, rfl, rfl, rfl, rfl, fun _ => rfl⟩
theorem cok_gfdiv_lift : COk Tryz.prog (cx_gfdiv_lift) := cok_of rfl (.cons ok_gfp_Up (.nil)) (.cons (fun _ => fn2_quiet) (.nil)) (.nil)
theorem ok_gfdiv_lift : Ok Tryz.prog 219 c_gfdiv_lift := by
  refine ok_fn2 cok_gfdiv_lift mixed Tryz.func219 rfl (by kernel_rfl) (by kernel_rfl) rfl ?_
  intro xs n om hw ⟨hl, h0, h1⟩
  have hx := (wf_u ⟨hw.1, trivial⟩).2
  simp only [go_sem, Tryz.f219, kn1, kn2, kn3, kn4, kn5, kn6, kn7, kn8, kn9, kz1, kz2, kz3, kz4, kz5, kz6, kz7, kz8, kz9, kz0, reduceCtorEq, String.reduceEq]
  refine ⟨List Nat × Nat, fun p => ⟨[.sl (els (V.n .u64) p.1), .z p.2, .u, .u, .u, .u, .u, .u, .u, .u, .u, .u, .u, .u], [], om⟩, fun p => (∀ x ∈ p.1, x < 18446744073709551616) ∧ pv p.1 <<< p.2 = pv xs <<< n.toNat ∧ p.1.length * 64 + p.2 ≤ xs.length * 64 + n.toNat + 64 ∧ p.2 ≤ n.toNat, fun p => p.2, ⟨(xs, n.toNat), ⟨hx, rfl, by show xs.length * 64 + n.toNat ≤ _; omega, Nat.le_refl _⟩, ?_⟩, ?_⟩
  · simp only [go_sem, kn1, kn2, kn3, kn4, kn5, kn6, kn7, kn8, kn9, kz1, kz2, kz3, kz4, kz5, kz6, kz7, kz8, kz9, kz0, reduceCtorEq, String.reduceEq]
    omega
  · rintro ⟨ys, k⟩ ⟨hy, hv, hk, hkn⟩
    simp only at hy hv hk hkn
    simp only [go_sem, kn1, kn2, kn3, kn4, kn5, kn6, kn7, kn8, kn9, kz1, kz2, kz3, kz4, kz5, kz6, kz7, kz8, kz9, kz0, reduceCtorEq, String.reduceEq]
    have hb := bl_pv hy
    refine ⟨fun h => ⟨by omega, fun _ => ⟨by omega, ⟨wd (pv ys <<< 2048), k - 2048⟩, ?_⟩⟩, fun h => ⟨by omega, fun _ => ?_⟩⟩
    · have e : upP (pv ys) 2048 = pv ys <<< 2048 := rfl
      have hb2 : bl (pv ys <<< 2048) ≤ bl (pv ys) + 2048 := by
        by_cases h0 : pv ys = 0
        · rw [h0]; simp [bl_zero]
        · rw [bl_shl h0]; omega
      have hl2 := wd_len (pv ys <<< 2048)
      refine ⟨⟨wd_lt _, ?_, by show (wd (pv ys <<< 2048)).length * 64 + (k - 2048) ≤ _; omega, by show k - 2048 ≤ _; omega⟩, ⟨by rw [e], by show (k : Int) - 2048 = (k - 2048 : Nat); omega⟩, by show k - 2048 < k; omega⟩
      show pv (wd (pv ys <<< 2048)) <<< (k - 2048) = _
      rw [pv_wd, ← Nat.shiftLeft_add, show 2048 + (k - 2048) = k by omega, hv]
    · unfold upP; rw [if_pos (by omega), Int.toNat_natCast, hv]
@[go_sem] def c_gfdiv_parts : Cn := fn2 tU tU (fun xs ys => xs.length ≤ 1048576 ∧ ys.length ≤ 1048576 ∧ pv ys ≠ 0) fun xs ys => .agg [vP (qd (pv xs) (pv ys)), vP (rm (pv xs) (pv ys))]
noncomputable def cx_gfdiv_parts : Cx := { T := T, E := E, cs := [(188, c_gfp_Deg), (193, c_gfp_Own), (207, c_gfp_Add), (219, c_gfdiv_lift)], sch := [(6, false, .take 0 (.take 1 (.take 3 (.alt 2 (.alt 4 (.alt 5 (.take 6 (.alt 7 (.done) .no)) .no) .no) .no)))), (7, false, .take 0 (.take 1 (.take 2 (.take 3 (.alt 4 (.alt 5 (.take 6 (.alt 7 (.done) .no)) .no) .no)))))], ob := [5], qs := [188, 193, 207, 219] }
@[go_sem] theorem cx_gfdiv_parts_e : cx_gfdiv_parts.gs = none ∧ cx_gfdiv_parts.md = 0 ∧ cx_gfdiv_parts.T = T ∧ cx_gfdiv_parts.E = E ∧ cx_gfdiv_parts.cs = [(188, c_gfp_Deg), (193, c_gfp_Own), (207, c_gfp_Add), (219, c_gfdiv_lift)] ∧ cx_gfdiv_parts.sch = [(6, false, .take 0 (.take 1 (.take 3 (.alt 2 (.alt 4 (.alt 5 (.take 6 (.alt 7 (.done) .no)) .no) .no) .no)))), (7, false, .take 0 (.take 1 (.take 2 (.take 3 (.alt 4 (.alt 5 (.take 6 (.alt 7 (.done) .no)) .no) .no)))))] ∧ cx_gfdiv_parts.ob = [5] := ⟨rfl, rfl, rfl, rfl, rfl, rfl, rfl⟩
theorem cok_gfdiv_parts : COk Tryz.prog (cx_gfdiv_parts) := cok_of rfl (.cons ok_gfp_Deg (.cons ok_gfp_Own (.cons ok_gfp_Add (.cons ok_gfdiv_lift (.nil))))) (.cons (fun _ => fn1_quiet) (.cons (fun _ => fn1_quiet) (.cons (fun _ => fn2_quiet) (.cons (fun _ => fn2_quiet) (.nil))))) (.nil)
theorem ok_gfdiv_parts : Ok Tryz.prog 216 c_gfdiv_parts := by
  refine ok_fn2 cok_gfdiv_parts mixed Tryz.func216 rfl (by kernel_rfl) (by kernel_rfl) rfl ?_
  intro xs ys om hw ⟨hl, hl', hB⟩
  have hx := (wf_u ⟨hw.1, trivial⟩).2
  have hy := (wf_u ⟨hw.2.1, trivial⟩).2
  simp only [go_sem, Tryz.f216, kn1, kn2, kn3, kn4, kn5, kn6, kn7, kn8, kn9, kz1, kz2, kz3, kz4, kz5, kz6, kz7, kz8, kz9, kz0, reduceCtorEq, String.reduceEq]
  refine ⟨by omega, fun _ id hid => ⟨by omega, fun _ => ?_⟩⟩
  obtain ⟨A, hA⟩ : ∃ A, pv xs = A := ⟨_, rfl⟩
  obtain ⟨B, hBB⟩ : ∃ B, pv ys = B := ⟨_, rfl⟩
  have hbA : bl A ≤ 64 * xs.length := by rw [← hA]; exact bl_pv hx
  have hbB : bl B ≤ 64 * ys.length := by rw [← hBB]; exact bl_pv hy
  have hB0 := bl_pos.2 hB
  rw [hBB] at hB hB0
  rw [hA, hBB]
  refine ⟨Nat × Nat, fun p => ⟨[.sl (els (V.n .u64) xs), .sl (els (V.n .u64) ys), .u, .u, .ref 4 1 2 0 0, .obj id 0, .z ((bl B : Int) - 1), .u, .u, .u, .u, .u, .u, .u, .u, .u, .u, .u, .u, .u, .u, .u, .u, .u, .u, .u, .u, .u, .u, .u, .u, .u, .u, .u, .u], [(4, ⟨2, true, [.agg [.nils, .nils]], false⟩)], om.put id [.sl (els (V.n .u64) (wd p.1)), .sl (els (V.n .u64) (wd p.2))]⟩, fun p => A = cm p.1 B ^^^ p.2 ∧ bl p.2 ≤ bl A ∧ bl p.1 ≤ bl A, fun p => bl p.2, ⟨(0, A), ⟨by simp [cm_zero_left], Nat.le_refl _, by simp [bl_zero]⟩, ?_⟩, ?_⟩
  · simp only [go_sem, kn1, kn2, kn3, kn4, kn5, kn6, kn7, kn8, kn9, kz1, kz2, kz3, kz4, kz5, kz6, kz7, kz8, kz9, kz0, reduceCtorEq, String.reduceEq]
  · rintro ⟨q, r⟩ ⟨h1, h2, h3⟩
    simp only at h1 h2 h3
    simp only [go_sem, kn1, kn2, kn3, kn4, kn5, kn6, kn7, kn8, kn9, kz1, kz2, kz3, kz4, kz5, kz6, kz7, kz8, kz9, kz0, reduceCtorEq, String.reduceEq, hBB]
    refine ⟨by omega, fun _ => ⟨by omega, fun hlt => ⟨by omega, by omega, .put hid (.refl _), ?_⟩, fun hge => ?_⟩⟩
    · obtain ⟨e1, e2⟩ := qr_eq h1 (by omega)
      exact ⟨e1.symm, e2.symm⟩
    · have e : ((bl r : Int) - 1 - ((bl B : Int) - 1)).toNat = bl r - bl B := by omega
      rw [e]
      have hr0 : r ≠ 0 := bl_pos.1 (by omega)
      have b1 : bl (1 <<< (bl r - bl B)) = bl r - bl B + 1 := by rw [bl_shl (by omega)]; show 1 + _ = _; omega
      have b2 : bl (B <<< (bl r - bl B)) = bl r := by rw [bl_shl hB]; omega
      have b3 := bl_xor_le q (1 <<< (bl r - bl B))
      have b4 := red_lt (a := r) (b := B) hB (by omega)
      refine ⟨by omega, by omega, fun _ => ⟨by omega, fun _ => ⟨by omega, fun _ => ⟨by omega, fun _ => ⟨(q ^^^ 1 <<< (bl r - bl B), r ^^^ B <<< (bl r - bl B)), ⟨?_, by show bl (r ^^^ _) ≤ _; omega, by show bl (q ^^^ _) ≤ _; omega⟩, ?_, b4⟩⟩⟩⟩⟩
      · show A = cm (q ^^^ 1 <<< (bl r - bl B)) B ^^^ (r ^^^ B <<< (bl r - bl B))
        rw [cm_xor_left, cm_shl_left, cm_one_left, h1]
        rw [show cm q B ^^^ B <<< (bl r - bl B) ^^^ (r ^^^ B <<< (bl r - bl B)) = cm q B ^^^ r ^^^ (B <<< (bl r - bl B) ^^^ B <<< (bl r - bl B)) by ac_rfl, Nat.xor_self, Nat.xor_zero]
      · exact .refl _
@[go_sem] def c_gfdiv_Div : Cn := fn2i tU tU (fun xs ys => xs.length ≤ 1048576 ∧ ys.length ≤ 1048576) (fun _ ys => pv ys = 0) (fun _ _ => .tup [vP 0, vP 0, .z 8]) fun xs ys => .tup [vP (qd (pv xs) (pv ys)), vP (rm (pv xs) (pv ys)), .z 0]
noncomputable def cx_gfdiv_Div : Cx := { T := T, E := E, cs := [(188, c_gfp_Deg), (216, c_gfdiv_parts)], sch := [(4, false, .take 0 (.take 1 (.take 2 (.take 3 (.take 4 (.take 5 (.take 6 (.done))))))))], ob := [], qs := [188, 216] }
@[go_sem] theorem cx_gfdiv_Div_e : cx_gfdiv_Div.gs = none ∧ cx_gfdiv_Div.md = 0 ∧ cx_gfdiv_Div.T = T ∧ cx_gfdiv_Div.E = E ∧ cx_gfdiv_Div.cs = [(188, c_gfp_Deg), (216, c_gfdiv_parts)] ∧ cx_gfdiv_Div.sch = [(4, false, .take 0 (.take 1 (.take 2 (.take 3 (.take 4 (.take 5 (.take 6 (.done))))))))] ∧ ∀ d, (cx_gfdiv_Div.ob).contains d = false := ⟨rfl, rfl, rfl, rfl, rfl, rfl, fun _ => rfl⟩
theorem cok_gfdiv_Div : COk Tryz.prog (cx_gfdiv_Div) := cok_of rfl (.cons ok_gfp_Deg (.cons ok_gfdiv_parts (.nil))) (.cons (fun _ => fn1_quiet) (.cons (fun _ => fn2_quiet) (.nil))) (.nil)
theorem ok_gfdiv_Div : Ok Tryz.prog 208 c_gfdiv_Div := by
  refine ok_fn2i cok_gfdiv_Div mixed Tryz.func208 rfl (by kernel_rfl) (by kernel_rfl) rfl ?_
  intro xs ys om hw ⟨hl, hl'⟩
  have hb0 := bl_eq_zero (x := pv ys)
  simp only [go_sem, Tryz.f208, kn1, kn2, kn3, kn4, kn5, kn6, kn7, kn8, kn9, kz1, kz2, kz3, kz4, kz5, kz6, kz7, kz8, kz9, kz0, reduceCtorEq, String.reduceEq]
  refine ⟨by omega, fun _ => ⟨fun h => ?_, fun h => ⟨⟨hl, hl', by omega⟩, fun _ => ⟨by omega, by omega, by omega, ?_⟩⟩⟩⟩
  · rw [if_pos (by omega)]
  · rw [if_neg (by omega)]
@[go_sem] def c_gfdiv_Mod : Cn := fn2i tU tU (fun xs ys => xs.length ≤ 1048576 ∧ ys.length ≤ 1048576) (fun _ ys => pv ys = 0) (fun _ _ => .tup [vP 0, .z 8]) fun xs ys => .tup [vP (rm (pv xs) (pv ys)), .z 0]
noncomputable def cx_gfdiv_Mod : Cx := { T := T, E := E, cs := [(208, c_gfdiv_Div)], sch := [], ob := [], qs := [208] }
@[go_sem] theorem cx_gfdiv_Mod_e : cx_gfdiv_Mod.gs = none ∧ cx_gfdiv_Mod.md = 0 ∧ cx_gfdiv_Mod.T = T ∧ cx_gfdiv_Mod.E = E ∧ cx_gfdiv_Mod.cs = [(208, c_gfdiv_Div)] ∧ ∀ d, (cx_gfdiv_Mod.ob).contains d = false := ⟨rfl, rfl, rfl, rfl, rfl, fun _ => rfl⟩
theorem cok_gfdiv_Mod : COk Tryz.prog (cx_gfdiv_Mod) := cok_of rfl (.cons ok_gfdiv_Div (.nil)) (.cons (fun _ => fn2i_quiet) (.nil)) (.nil)
theorem ok_gfdiv_Mod : Ok Tryz.prog 200 c_gfdiv_Mod := by
  refine ok_fn2i cok_gfdiv_Mod mixed Tryz.func200 rfl (by kernel_rfl) (by kernel_rfl) rfl ?_
  intro xs ys om hw ⟨hl, hl'⟩
  simp only [go_sem, Tryz.f200, kn1, kn2, kn3, kn4, kn5, kn6, kn7, kn8, kn9, kz1, kz2, kz3, kz4, kz5, kz6, kz7, kz8, kz9, kz0, reduceCtorEq, String.reduceEq]
  exact ⟨⟨hl, hl'⟩, fun h => by rw [if_pos h], fun h _ => by rw [if_neg h]⟩
@[go_sem] def c_gfdiv_MulMod : Cn := fn3i tU tU tU (fun xs ys ps => xs.length ≤ 262144 ∧ ys.length ≤ 262144 ∧ ps.length ≤ 1048576) (fun _ _ ps => pv ps = 0) (fun _ _ _ => .tup [vP 0, .z 8]) fun xs ys ps => .tup [vP (rm (cm (pv xs) (pv ys)) (pv ps)), .z 0]
noncomputable def cx_gfdiv_MulMod : Cx := { T := T, E := E, cs := [(200, c_gfdiv_Mod), (213, c_gfp_Mul)], sch := [], ob := [], qs := [200, 213] }
@[go_sem] theorem cx_gfdiv_MulMod_e : cx_gfdiv_MulMod.gs = none ∧ cx_gfdiv_MulMod.md = 0 ∧ cx_gfdiv_MulMod.T = T ∧ cx_gfdiv_MulMod.E = E ∧ cx_gfdiv_MulMod.cs = [(200, c_gfdiv_Mod), (213, c_gfp_Mul)] ∧ ∀ d, (cx_gfdiv_MulMod.ob).contains d = false := ⟨rfl, rfl, rfl, rfl, rfl, fun _ => rfl⟩
theorem cok_gfdiv_MulMod : COk Tryz.prog (cx_gfdiv_MulMod) := cok_of rfl (.cons ok_gfdiv_Mod (.cons ok_gfp_Mul (.nil))) (.cons (fun _ => fn2i_quiet) (.cons (fun _ => fn2_quiet) (.nil))) (.nil)
theorem ok_gfdiv_MulMod : Ok Tryz.prog 203 c_gfdiv_MulMod := by
  refine ok_fn3i cok_gfdiv_MulMod mixed Tryz.func203 rfl (by kernel_rfl) (by kernel_rfl) rfl ?_
  intro xs ys ps om hw ⟨hl, hl', hl''⟩
  have hx := (wf_u ⟨hw.1, trivial⟩).2
  have hy := (wf_u ⟨hw.2.1, trivial⟩).2
  have b1 := bl_pv hx
  have b2 := bl_pv hy
  have b3 := bl_cm_le (pv xs) (pv ys)
  simp only [go_sem, Tryz.f203, kn1, kn2, kn3, kn4, kn5, kn6, kn7, kn8, kn9, kz1, kz2, kz3, kz4, kz5, kz6, kz7, kz8, kz9, kz0, reduceCtorEq, String.reduceEq]
  refine ⟨by omega, fun _ => ⟨by omega, fun h => by rw [if_pos h], fun h _ => by rw [if_neg h]⟩⟩
end Go.Proofs.YteomkgcepiecjaaGreat.I
/- gfdiv: both, Gcd, Inverse. -/
namespace Go.Proofs.YteomkgcepiecjaaGreat.I
open Go
open Nat renaming reduceEqDiff → kn1, reduceBEq → kn2, reducePow → kn3, reduceMod → kn4, reduceAdd → kn5, reduceSub → kn6, reduceMul → kn7, reduceDiv → kn8, reduceLeDiff → kn9, reduceLT → kn0, zero_lt_one → kq1, zero_add → kq2, zero_le → kq3, le_refl → kq4
open Int renaming reduceToNat → kz1, reduceAdd → kz2, reduceSub → kz3, reduceMul → kz4, reduceDiv → kz5, reduceMod → kz6, reduceLE → kz7, reduceLT → kz8, reduceNeg → kz9, reduceEq → kz0
set_option maxRecDepth 10000
set_option linter.unusedSimpArgs false
set_option linter.unusedVariables false
theorem wd_lit1 : wd 1 = [1] := by rw [wd_wds]; rfl
def tP : Ty Nat where
  enc := vP
  dec := fun v => match tU.dec v with
    | some xs => if wd (pv xs) = xs then some (pv xs) else none
    | none => none
  h1 := fun n => by
    show (match tU.dec (tU.enc (wd n)) with | some xs => if wd (pv xs) = xs then some (pv xs) else none | none => none) = _
    rw [tU.h1]; simp only [pv_wd, if_true]
  h2 := fun v n h => by
    split at h
    · rename_i xs hx
      split at h
      · rename_i he
        injection h with h; subst h
        rw [tU.h2 _ _ hx]
        show _ = V.sl (els (V.n .u64) (wd (pv xs)))
        rw [he]; rfl
      · cases h
    · cases h
@[go_sem] theorem tP_enc (n : Nat) : tP.enc n = .sl (els (V.n .u64) (wd n)) := rfl
@[go_sem] theorem tP_dec (n : Nat) : tP.dec (.sl (els (V.n .u64) (wd n))) = some n := tP.h1 n
@[go_sem] theorem tP_dec0 : tP.dec (.sl []) = some 0 := by
  have := tP.h1 0; rw [tP_enc, wd_zero] at this; exact this
@[go_sem] theorem tP_dec1 : tP.dec (.sl [.n .u64 1]) = some 1 := by
  have := tP.h1 1; rw [tP_enc, wd_lit1] at this; exact this
def two : List V → Option (Nat × Nat)
  | [a, b] => match tP.dec a, tP.dec b with
    | some x, some y => some (x, y)
    | _, _ => none
  | _ => none
attribute [go_sem] two.eq_1
theorem new_ne {om : Om} {i j : Nat} {cs : List V} (h : (if j = i then some cs else om j) = none) : ¬ j = i ∧ ¬ i = j ∧ om j = none := by
  split at h
  · cases h
  · rename_i hn; exact ⟨hn, fun e => hn e.symm, h⟩
end Go.Proofs.YteomkgcepiecjaaGreat.I
