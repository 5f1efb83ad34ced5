/- Texts of the ideal machine, or of plain numbers, one behind the other: Gfp1, Gfp2, Gfp3, Gfdiv1, Gfdiv2. -/
import Derived.Test.YtlcnohmnemmbdaaM3
import Derived.Test.YtlcnohmnemmbdaaG1
/- gfp, from below: Len64, Clone, Poly.at, Own. -/
namespace Go.Proofs.Ytlcnohmnemmbdaa.I
open Go
set_option maxRecDepth 10000
set_option linter.unusedSimpArgs false
set_option linter.unusedVariables false

theorem bl_shr {x k : Nat} (h : 2 ^ k ≤ x) : bl x = k + bl (x >>> k) := by
  have key : ∀ n, bl x ≤ n ↔ k + bl (x >>> k) ≤ n := by
    intro n
    rw [bl_lt]
    by_cases hn : k ≤ n
    · have : k + bl (x >>> k) ≤ n ↔ bl (x >>> k) ≤ n - k := by omega
      rw [this, bl_lt, Nat.shiftRight_eq_div_pow, Nat.div_lt_iff_lt_mul (Nat.pow_pos (by omega)), ← Nat.pow_add]
      rw [show n - k + k = n by omega]
    · have h1 : ¬ x < 2 ^ n := by
        have := Nat.pow_le_pow_right (n := 2) (by omega) (show n ≤ k by omega); omega
      simp only [h1, false_iff]; omega
  have h1 := (key (bl x)).1 (Nat.le_refl _)
  have h2 := (key (k + bl (x >>> k))).2 (Nat.le_refl _)
  omega

@[go_sem] def c_math_bits_Len64 : Cn := fn1 (tN .u64) (fun _ => True) fun x => .z (bl x)
noncomputable def cx_math_bits_Len64 : Cx := { T := T, E := E, cs := [], sch := [], ob := [], qs := [] }
@[go_sem] theorem cx_math_bits_Len64_e : cx_math_bits_Len64.gs = none ∧ cx_math_bits_Len64.md = 0 ∧ cx_math_bits_Len64.T = T ∧ cx_math_bits_Len64.E = E ∧ cx_math_bits_Len64.cs = [] ∧ ∀ d, (cx_math_bits_Len64.ob).contains d = false := ⟨rfl, rfl, rfl, rfl, rfl, fun _ => rfl⟩
theorem cok_math_bits_Len64 : COk Try.prog (cx_math_bits_Len64) := cok_of rfl (.nil) (.nil) (.nil)
theorem ok_math_bits_Len64 : Ok Try.prog 48 c_math_bits_Len64 := by
  refine ok_fn1 cok_math_bits_Len64 mixed Try.func48 rfl (by kernel_rfl) (by kernel_rfl) rfl ?_
  intro x om hw _
  simp only [go_sem, Try.f48, Int.reduceToNat, Nat.reduceEqDiff, Nat.reduceBEq]
  generalize hT : ({ data := _ } : ByteArray) = tab
  have h1 : tab.size = 256 := by rw [← hT]; rfl
  have h2 : ∀ i, i < 256 → byteAt tab i = bl i := by rw [← hT]; decide
  clear hT
  have hx : x < 18446744073709551616 := by have := hw.1; simpa [tN, V.wf, IntKind.bits] using this
  have fin : ∀ (e : Int) (c y : Nat), e = c → c ≤ 64 → y < 256 → bl x = c + bl y →
      y % 2 ^ 8 < tab.size ∧ byteAt tab (y % 2 ^ 8) < 9223372036854775808 ∧ (-9223372036854775808 ≤ e + (byteAt tab (y % 2 ^ 8) : Int) ∧ e + (byteAt tab (y % 2 ^ 8) : Int) ≤ 9223372036854775807) ∧ e + (byteAt tab (y % 2 ^ 8) : Int) = bl x := by
    intro e c y he hc hy hb
    have h3 : bl y ≤ 8 := bl_lt.2 (by omega)
    have h4 : y % 2 ^ 8 = y := Nat.mod_eq_of_lt (by omega)
    rw [h4, h2 y hy, h1, he]
    refine ⟨hy, by omega, by omega, by omega⟩
  have sh : ∀ a b : Nat, a >>> b = a / 2 ^ b := fun a b => Nat.shiftRight_eq_div_pow a b

  refine ⟨fun a1 => ⟨fun a2 => ⟨by omega, fun a3 => ⟨by omega, ?_⟩, fun a3 => ?_⟩, fun a2 => ⟨fun a3 => ⟨by omega, ?_⟩, fun a3 => ?_⟩⟩, fun a1 => ⟨fun a2 => ⟨by omega, fun a3 => ⟨by omega, ?_⟩, fun a3 => ?_⟩, fun a2 => ⟨fun a3 => ⟨by omega, ?_⟩, fun a3 => ?_⟩⟩⟩
  · exact fin _ 56 _ rfl (by omega) (by simp only [sh] at *; omega) (by rw [bl_shr (k := 32) a1, bl_shr (k := 16) a2, bl_shr (k := 8) a3]; omega)
  · exact fin _ 48 _ rfl (by omega) (by simp only [sh] at *; omega) (by rw [bl_shr (k := 32) a1, bl_shr (k := 16) a2]; omega)
  · exact fin _ 40 _ rfl (by omega) (by simp only [sh] at *; omega) (by rw [bl_shr (k := 32) a1, bl_shr (k := 8) a3]; omega)
  · exact fin _ 32 _ rfl (by omega) (by simp only [sh] at *; omega) (by rw [bl_shr (k := 32) a1])
  · exact fin _ 24 _ rfl (by omega) (by simp only [sh] at *; omega) (by rw [bl_shr (k := 16) a2, bl_shr (k := 8) a3]; omega)
  · exact fin _ 16 _ rfl (by omega) (by simp only [sh] at *; omega) (by rw [bl_shr (k := 16) a2])
  · exact fin _ 8 _ rfl (by omega) (by simp only [sh] at *; omega) (by rw [bl_shr (k := 8) a3])
  · exact fin _ 0 _ rfl (by omega) (by omega) (by omega)

/-- A polynomial in its own form. -/
def vP (n : Nat) : V := .sl (els (V.n .u64) (wd n))
@[go_sem] theorem vP_eq (n : Nat) : vP n = .sl (els (V.n .u64) (wd n)) := rfl
attribute [go_sem] pv_wd wd_len wd_getD
@[go_sem] theorem wfs_wd (n : Nat) : wfs (els (V.n .u64) (wd n)) = True := eq_true ((wf_n .u64 _).2 (wd_lt n))
theorem pv_nil : pv [] = 0 := rfl
theorem pv_one (x : Nat) : pv [x] = x := by simp [pv]
@[go_sem] theorem wd_inj' (a b : Nat) : (wd a = wd b) = (a = b) := propext wd_inj
@[go_sem] theorem wd_nil' (a : Nat) : (wd a = []) = (a = 0) := propext wd_eq_nil
attribute [go_sem] wd_zero pv_nil pv_one
theorem pv_filled {n k m : Nat} (hk : k = n) (hn : bl m ≤ 64 * n) : pv (filled n k (wdAt m) 0) = m := by
  subst hk; rw [filled_all]; exact pv_map (bl_lt.1 hn) fun i _ => rfl

/-- slices.Clone. -/
@[go_sem] def c_slices_Clone_gfp_Poly_uint64 : Cn := fn1 tU (fun xs => xs.length ≤ 17592186044416) fun xs => .sl (els (V.n .u64) xs)
/-- The word at a place, 0 outside. -/
def atU (n : Nat) (i : Int) : Nat := if 0 ≤ i then wdAt n i.toNat else 0
theorem atU_pos {n : Nat} {i : Int} (h : 0 ≤ i) : atU n i = wdAt n i.toNat := if_pos h
theorem atU_neg {n : Nat} {i : Int} (h : i < 0) : atU n i = 0 := if_neg (by omega)

@[go_sem] def c_gfp_Poly_at : Cn := fn2 tU tZ (fun _ _ => True) fun xs i => .n .u64 (atU (pv xs) i)
theorem trim_take (xs : List Nat) (k : Nat) (hk : k < xs.length) (h0 : xs.getD k 0 = 0) (h : trim xs = trim (xs.take (k + 1))) : trim xs = trim (xs.take k) := by
  rw [h]
  have e : xs.take (k + 1) = xs.take k ++ [0] := by
    rw [List.take_succ_eq_append_getElem hk]
    have : xs[k] = 0 := by simpa [List.getD, hk] using h0
    rw [this]
  unfold trim
  rw [e, List.reverse_append]
  simp

theorem trim_done (xs : List Nat) (k : Nat) (hk : k < xs.length) (h0 : xs.getD k 0 ≠ 0) : trim (xs.take (k + 1)) = xs.take (k + 1) := by
  have e : xs.take (k + 1) = xs.take k ++ [xs[k]] := List.take_succ_eq_append_getElem hk
  have h1 : xs[k] ≠ 0 := by simpa [List.getD, hk] using h0
  unfold trim
  rw [e, List.reverse_append]
  simp [h1]

@[go_sem] def c_gfp_Own : Cn := fn1 tU (fun xs => xs.length ≤ 17592186044416) fun xs => vP (pv xs)
end Go.Proofs.Ytlcnohmnemmbdaa.I
/- gfp: Deg, Bit, Add, Same. -/
namespace Go.Proofs.Ytlcnohmnemmbdaa.I
open Go
set_option maxRecDepth 10000
set_option linter.unusedSimpArgs false
set_option linter.unusedVariables false

@[go_sem] def c_gfp_Deg : Cn := fn1 tU (fun xs => xs.length ≤ 17592186044416) fun xs => .z ((bl (pv xs) : Int) - 1)
/-- A part of a polynomial. -/
def tb (n : Nat) (i : Int) : Int := if 0 ≤ i ∧ n.testBit i.toNat = true then 1 else 0
@[go_sem] def c_gfp_Bit : Cn := fn2 tU tZ (fun _ _ => True) fun xs i => .z (tb (pv xs) i)
@[go_sem] def c_gfp_Add : Cn := fn2 tU tU (fun xs ys => xs.length ≤ 4294967296 ∧ ys.length ≤ 4294967296) fun xs ys => vP (pv xs ^^^ pv ys)
@[go_sem] def c_gfp_Same : Cn := fn2 tU tU (fun xs ys => xs.length ≤ 4294967296 ∧ ys.length ≤ 4294967296) fun xs ys => .b (decide (pv xs = pv ys))
end Go.Proofs.Ytlcnohmnemmbdaa.I
/- gfp: Words, Mul, Square, Up, X. -/
namespace Go.Proofs.Ytlcnohmnemmbdaa.I
open Go
set_option maxRecDepth 10000
set_option linter.unusedSimpArgs false
set_option linter.unusedVariables false

attribute [go_sem] wds_len wds_take

@[go_sem] def c_gfp_Words : Cn := fn2 (tN .u64) (tN .u64) (fun _ _ => True) fun x y => .tup [.n .u64 (wdAt (cm x y) 1), .n .u64 (wdAt (cm x y) 0)]
@[go_sem] def c_gfp_Mul : Cn := fn2 tU tU (fun xs ys => xs.length ≤ 4294967296 ∧ ys.length ≤ 4294967296) fun xs ys => vP (cm (pv xs) (pv ys))
@[go_sem] def c_gfp_Square : Cn := fn1 tU (fun xs => xs.length ≤ 4294967296) fun xs => vP (cm (pv xs) (pv xs))
def upP (m : Nat) (n : Int) : Nat := if 0 ≤ n ∧ n ≤ 2048 then m <<< n.toNat else 0
@[go_sem] def c_gfp_Up : Cn := fn2 tU tZ (fun xs _ => xs.length ≤ 4294967296) fun xs n => vP (upP (pv xs) n)
@[go_sem] def c_gfp_X : Cn := fn1 tZ (fun _ => True) fun n => vP (upP 1 n)
end Go.Proofs.Ytlcnohmnemmbdaa.I
/- gfdiv: lift, parts, Div, Mod, MulMod. -/
namespace Go.Proofs.Ytlcnohmnemmbdaa.I
open Go
set_option maxRecDepth 10000
set_option linter.unusedSimpArgs false
set_option linter.unusedVariables false

@[go_sem] def c_gfdiv_lift : Cn := fn2 tU tZ (fun xs n => xs.length ≤ 1073741824 ∧ 0 ≤ n ∧ n ≤ 68719476736) fun xs n => vP (pv xs <<< n.toNat)
@[go_sem] def c_gfdiv_parts : Cn := fn2 tU tU (fun xs ys => xs.length ≤ 1048576 ∧ ys.length ≤ 1048576 ∧ pv ys ≠ 0) fun xs ys => .agg [vP (qd (pv xs) (pv ys)), vP (rm (pv xs) (pv ys))]
@[go_sem] def c_gfdiv_Div : Cn := fn2i tU tU (fun xs ys => xs.length ≤ 1048576 ∧ ys.length ≤ 1048576) (fun _ ys => pv ys = 0) (fun _ _ => .tup [vP 0, vP 0, .z 8]) fun xs ys => .tup [vP (qd (pv xs) (pv ys)), vP (rm (pv xs) (pv ys)), .z 0]
@[go_sem] def c_gfdiv_Mod : Cn := fn2i tU tU (fun xs ys => xs.length ≤ 1048576 ∧ ys.length ≤ 1048576) (fun _ ys => pv ys = 0) (fun _ _ => .tup [vP 0, .z 8]) fun xs ys => .tup [vP (rm (pv xs) (pv ys)), .z 0]
@[go_sem] def c_gfdiv_MulMod : Cn := fn3i tU tU tU (fun xs ys ps => xs.length ≤ 262144 ∧ ys.length ≤ 262144 ∧ ps.length ≤ 1048576) (fun _ _ ps => pv ps = 0) (fun _ _ _ => .tup [vP 0, .z 8]) fun xs ys ps => .tup [vP (rm (cm (pv xs) (pv ys)) (pv ps)), .z 0]
end Go.Proofs.Ytlcnohmnemmbdaa.I
/- gfdiv: both, Gcd, Inverse. -/
namespace Go.Proofs.Ytlcnohmnemmbdaa.I
open Go
set_option maxRecDepth 10000
set_option linter.unusedSimpArgs false
set_option linter.unusedVariables false

theorem wd_lit1 : wd 1 = [1] := by rw [wd_wds]; rfl
/-- Polynomials in their own form. -/
def tP : Ty Nat where
  enc := vP
  dec := fun v => match tU.dec v with
    | some xs => if wd (pv xs) = xs then some (pv xs) else none
    | none => none
  h1 := fun n => by
    show (match tU.dec (tU.enc (wd n)) with | some xs => if wd (pv xs) = xs then some (pv xs) else none | none => none) = _
    rw [tU.h1]; simp only [pv_wd, if_true]
  h2 := fun v n h => by
    split at h
    · rename_i xs hx
      split at h
      · rename_i he
        injection h with h; subst h
        rw [tU.h2 _ _ hx]
        show _ = V.sl (els (V.n .u64) (wd (pv xs)))
        rw [he]; rfl
      · cases h
    · cases h
@[go_sem] theorem tP_enc (n : Nat) : tP.enc n = .sl (els (V.n .u64) (wd n)) := rfl
@[go_sem] theorem tP_dec (n : Nat) : tP.dec (.sl (els (V.n .u64) (wd n))) = some n := tP.h1 n
@[go_sem] theorem tP_dec0 : tP.dec (.sl []) = some 0 := by
  have := tP.h1 0; rw [tP_enc, wd_zero] at this; exact this
@[go_sem] theorem tP_dec1 : tP.dec (.sl [.n .u64 1]) = some 1 := by
  have := tP.h1 1; rw [tP_enc, wd_lit1] at this; exact this

/-- A row of two polynomials. -/
def two : List V → Option (Nat × Nat)
  | [a, b] => match tP.dec a, tP.dec b with
    | some x, some y => some (x, y)
    | _, _ => none
  | _ => none
attribute [go_sem] two.eq_1
theorem two_some {cs : List V} {p : Nat × Nat} (h : two cs = some p) : cs = [.sl (els (V.n .u64) (wd p.1)), .sl (els (V.n .u64) (wd p.2))] := by
  unfold two at h
  split at h
  · split at h
    · rename_i a b x y hx hy
      injection h with h; subst h
      rw [tP.h2 _ _ hx, tP.h2 _ _ hy]; rfl
    · cases h
  · cases h

def c_gfdiv_both_1 : Cn
  | [.obj i 0, .obj j 0], om, K => @so _ (om i) ⟨fun cs => @so _ (om j) ⟨fun ds => @so _ (two cs) ⟨fun x => @so _ (two ds) ⟨fun y =>
      (bl x.1 ≤ 67108864 ∧ bl x.2 ≤ 67108864 ∧ bl y.1 ≤ 67108864 ∧ bl y.2 ≤ 67108864 ∧ y.1 ≠ 0 ∧ i ≠ j) ∧
      K.k (.tup []) ((om.put i [vP y.1, vP y.2]).put j [vP (rm x.1 y.1), vP (x.2 ^^^ cm (qd x.1 y.1) y.2)])⟩⟩⟩⟩
  | _, _, _ => False
attribute [go_sem] c_gfdiv_both_1.eq_1
theorem c_gfdiv_both_1_mono : Mono c_gfdiv_both_1 := by
  intro args om K K' hK h
  unfold c_gfdiv_both_1 at h ⊢
  split at h
  · exact mono_so (fun _ h => mono_so (fun _ h => mono_so (fun _ h => mono_so (fun _ h => ⟨h.1, hK _ _ h.2⟩) h) h) h) h
  · exact h.elim
theorem new_ne {om : Om} {i j : Nat} {cs : List V} (h : (if j = i then some cs else om j) = none) : ¬ j = i ∧ ¬ i = j ∧ om j = none := by
  split at h
  · cases h
  · rename_i hn; exact ⟨hn, fun e => hn e.symm, h⟩
theorem om_four (om : Om) {i j : Nat} (h : ¬ j = i) (a b c d : List V) : (((om.put i a).put j b).put i c).put j d = (om.put i c).put j d := by
  funext k; simp only [Om.put]
  by_cases e : k = j
  · simp [e]
  · by_cases e2 : k = i <;> simp [e, e2]

@[go_sem] def c_gfdiv_both : Cn := fn2 tU tU (fun xs ys => xs.length ≤ 262144 ∧ ys.length ≤ 262144) fun xs ys => .agg [vP (eg (pv xs) (pv ys)).1, vP (eg (pv xs) (pv ys)).2]
@[go_sem] def c_gfdiv_Gcd : Cn := fn2 tU tU (fun xs ys => xs.length ≤ 262144 ∧ ys.length ≤ 262144) fun xs ys => vP (gd (pv xs) (pv ys))
@[go_sem] def c_gfdiv_Inverse : Cn := fn2j tU tU (fun xs ys => xs.length ≤ 262144 ∧ ys.length ≤ 262144) (fun _ ys => pv ys = 0) (fun xs ys => gd (pv xs) (pv ys) = 1) (fun _ _ => .tup [vP 0, .z 8]) (fun xs ys => .tup [vP (iv (pv xs) (pv ys)), .z 0]) (fun _ _ => .tup [vP 0, .z 1])
end Go.Proofs.Ytlcnohmnemmbdaa.I
