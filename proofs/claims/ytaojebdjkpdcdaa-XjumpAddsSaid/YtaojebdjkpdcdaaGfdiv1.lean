/- gfdiv: lift, parts, Div, Mod, MulMod. -/
import Derived.Test.YtaojebdjkpdcdaaGfp3
namespace Go.Proofs.Ytaojebdjkpdcdaa.I
open Go
set_option maxRecDepth 10000
set_option linter.unusedSimpArgs false
set_option linter.unusedVariables false

def c_gfdiv_lift : Cn := fn2 tU tZ (fun xs n => xs.length ≤ 1073741824 ∧ 0 ≤ n ∧ n ≤ 68719476736) fun xs n => vP (pv xs <<< n.toNat)
noncomputable def cx_gfdiv_lift : Cx := { T := T, E := E, cs := [(65, c_gfp_Up)], sch := [], ob := [], qs := [65] }
@[go_sem] theorem cx_gfdiv_lift_md : cx_gfdiv_lift.md = 0 := rfl
@[go_sem] theorem cx_gfdiv_lift_T : cx_gfdiv_lift.T = T := rfl
@[go_sem] theorem cx_gfdiv_lift_E : cx_gfdiv_lift.E = E := rfl
@[go_sem] theorem cx_gfdiv_lift_cs : cx_gfdiv_lift.cs = [(65, c_gfp_Up)] := rfl
@[go_sem] theorem cx_gfdiv_lift_ob (d : Nat) : (cx_gfdiv_lift.ob).contains d = false := rfl
theorem cok_gfdiv_lift : COk Try.prog (cx_gfdiv_lift) := cok_of rfl (.cons ok_gfp_Up (.nil)) (.cons (fun _ => fn2_quiet) (.nil)) (.nil)
theorem ok_gfdiv_lift : Ok Try.prog 92 c_gfdiv_lift := by
  refine ok_fn2 cok_gfdiv_lift mixed Try.func92 rfl (by kernel_rfl) (by kernel_rfl) rfl ?_
  intro xs n om hw ⟨hl, h0, h1⟩
  have hx := (wf_u ⟨hw.1, trivial⟩).2
  simp only [go_sem, Try.f92, Nat.reduceEqDiff, Nat.reduceBEq, Int.reduceToNat, Nat.reducePow, Nat.reduceMod, Nat.reduceAdd, Nat.reduceSub, Nat.reduceMul, Nat.reduceDiv, Nat.reduceLeDiff, Int.reduceAdd, Int.reduceSub, Int.reduceMul, Int.reduceDiv, Int.reduceMod, Int.reduceLE, Int.reduceLT, Int.reduceNeg, Int.reduceEq, Int.cast_ofNat_Int, Int.natCast_zero, List.contains_cons, List.contains_nil, Bool.or_false, Bool.or_true, Bool.true_or, reduceCtorEq, or_false, or_true, false_or, true_or, and_false, false_and, ne_eq, List.take_zero, List.take_succ_cons, List.take_nil, List.drop_zero, List.drop_succ_cons, List.drop_nil, decide_true, decide_false, c_gfp_Up]
  refine ⟨List Nat × Nat, fun p => ⟨[.sl (els (V.n .u64) p.1), .z p.2, .u, .u, .u, .u, .u, .u, .u, .u, .u, .u, .u, .u], [], om⟩, fun p => (∀ x ∈ p.1, x < 18446744073709551616) ∧ pv p.1 <<< p.2 = pv xs <<< n.toNat ∧ p.1.length * 64 + p.2 ≤ xs.length * 64 + n.toNat + 64 ∧ p.2 ≤ n.toNat, fun p => p.2, ⟨(xs, n.toNat), ⟨hx, rfl, by show xs.length * 64 + n.toNat ≤ _; omega, Nat.le_refl _⟩, ?_⟩, ?_⟩
  · simp only [go_sem, Nat.reduceEqDiff, Nat.reduceBEq, Int.reduceToNat, Nat.reducePow, Nat.reduceMod, Nat.reduceAdd, Nat.reduceSub, Nat.reduceMul, Nat.reduceDiv, Nat.reduceLeDiff, Int.reduceAdd, Int.reduceSub, Int.reduceMul, Int.reduceDiv, Int.reduceMod, Int.reduceLE, Int.reduceLT, Int.reduceNeg, Int.reduceEq, Int.cast_ofNat_Int, Int.natCast_zero, List.contains_cons, List.contains_nil, Bool.or_false, Bool.or_true, Bool.true_or, reduceCtorEq, or_false, or_true, false_or, true_or, and_false, false_and, ne_eq, List.take_zero, List.take_succ_cons, List.take_nil, List.drop_zero, List.drop_succ_cons, List.drop_nil, decide_true, decide_false, c_gfp_Up]
    omega
  · rintro ⟨ys, k⟩ ⟨hy, hv, hk, hkn⟩
    simp only at hy hv hk hkn
    simp only [go_sem, Nat.reduceEqDiff, Nat.reduceBEq, Int.reduceToNat, Nat.reducePow, Nat.reduceMod, Nat.reduceAdd, Nat.reduceSub, Nat.reduceMul, Nat.reduceDiv, Nat.reduceLeDiff, Int.reduceAdd, Int.reduceSub, Int.reduceMul, Int.reduceDiv, Int.reduceMod, Int.reduceLE, Int.reduceLT, Int.reduceNeg, Int.reduceEq, Int.cast_ofNat_Int, Int.natCast_zero, List.contains_cons, List.contains_nil, Bool.or_false, Bool.or_true, Bool.true_or, reduceCtorEq, or_false, or_true, false_or, true_or, and_false, false_and, ne_eq, List.take_zero, List.take_succ_cons, List.take_nil, List.drop_zero, List.drop_succ_cons, List.drop_nil, decide_true, decide_false, c_gfp_Up]
    have hb := bl_pv hy
    refine ⟨fun h => ⟨by omega, fun _ => ⟨by omega, ⟨wd (pv ys <<< 2048), k - 2048⟩, ?_⟩⟩, fun h => ⟨by omega, fun _ => ?_⟩⟩
    · have e : upP (pv ys) 2048 = pv ys <<< 2048 := rfl
      have hb2 : bl (pv ys <<< 2048) ≤ bl (pv ys) + 2048 := by
        by_cases h0 : pv ys = 0
        · rw [h0]; simp [bl_zero]
        · rw [bl_shl h0]; omega
      have hl2 := wd_len (pv ys <<< 2048)
      refine ⟨⟨wd_lt _, ?_, by show (wd (pv ys <<< 2048)).length * 64 + (k - 2048) ≤ _; omega, by show k - 2048 ≤ _; omega⟩, ⟨by rw [e], by show (k : Int) - 2048 = (k - 2048 : Nat); omega⟩, by show k - 2048 < k; omega⟩
      show pv (wd (pv ys <<< 2048)) <<< (k - 2048) = _
      rw [pv_wd, ← Nat.shiftLeft_add, show 2048 + (k - 2048) = k by omega, hv]
    · unfold upP; rw [if_pos (by omega), Int.toNat_natCast, hv]

def c_gfdiv_parts : Cn := fn2 tU tU (fun xs ys => xs.length ≤ 1048576 ∧ ys.length ≤ 1048576 ∧ pv ys ≠ 0) fun xs ys => .agg [vP (qd (pv xs) (pv ys)), vP (rm (pv xs) (pv ys))]
noncomputable def cx_gfdiv_parts : Cx := { T := T, E := E, cs := [(26, c_gfp_Deg), (51, c_gfp_Add), (61, c_gfp_Own), (92, c_gfdiv_lift)], sch := [(6, false, .take 0 (.take 1 (.take 3 (.alt 2 (.alt 4 (.alt 5 (.take 6 (.alt 7 (.done) .no)) .no) .no) .no)))), (7, false, .take 0 (.take 1 (.take 2 (.take 3 (.alt 4 (.alt 5 (.take 6 (.alt 7 (.done) .no)) .no) .no)))))], ob := [5], qs := [26, 51, 61, 92] }
@[go_sem] theorem cx_gfdiv_parts_md : cx_gfdiv_parts.md = 0 := rfl
@[go_sem] theorem cx_gfdiv_parts_T : cx_gfdiv_parts.T = T := rfl
@[go_sem] theorem cx_gfdiv_parts_E : cx_gfdiv_parts.E = E := rfl
@[go_sem] theorem cx_gfdiv_parts_cs : cx_gfdiv_parts.cs = [(26, c_gfp_Deg), (51, c_gfp_Add), (61, c_gfp_Own), (92, c_gfdiv_lift)] := rfl
@[go_sem] theorem cx_gfdiv_parts_sch : cx_gfdiv_parts.sch = [(6, false, .take 0 (.take 1 (.take 3 (.alt 2 (.alt 4 (.alt 5 (.take 6 (.alt 7 (.done) .no)) .no) .no) .no)))), (7, false, .take 0 (.take 1 (.take 2 (.take 3 (.alt 4 (.alt 5 (.take 6 (.alt 7 (.done) .no)) .no) .no)))))] := rfl
@[go_sem] theorem cx_gfdiv_parts_ob : cx_gfdiv_parts.ob = [5] := rfl
theorem cok_gfdiv_parts : COk Try.prog (cx_gfdiv_parts) := cok_of rfl (.cons ok_gfp_Deg (.cons ok_gfp_Add (.cons ok_gfp_Own (.cons ok_gfdiv_lift (.nil))))) (.cons (fun _ => fn1_quiet) (.cons (fun _ => fn2_quiet) (.cons (fun _ => fn1_quiet) (.cons (fun _ => fn2_quiet) (.nil))))) (.nil)
theorem ok_gfdiv_parts : Ok Try.prog 85 c_gfdiv_parts := by
  refine ok_fn2 cok_gfdiv_parts mixed Try.func85 rfl (by kernel_rfl) (by kernel_rfl) rfl ?_
  intro xs ys om hw ⟨hl, hl', hB⟩
  have hx := (wf_u ⟨hw.1, trivial⟩).2
  have hy := (wf_u ⟨hw.2.1, trivial⟩).2
  simp only [go_sem, Try.f85, Nat.reduceEqDiff, Nat.reduceBEq, Int.reduceToNat, Nat.reducePow, Nat.reduceMod, Nat.reduceAdd, Nat.reduceSub, Nat.reduceMul, Nat.reduceDiv, Nat.reduceLeDiff, Int.reduceAdd, Int.reduceSub, Int.reduceMul, Int.reduceDiv, Int.reduceMod, Int.reduceLE, Int.reduceLT, Int.reduceNeg, Int.reduceEq, Int.cast_ofNat_Int, Int.natCast_zero, List.contains_cons, List.contains_nil, Bool.or_false, Bool.or_true, Bool.true_or, reduceCtorEq, or_false, or_true, false_or, true_or, and_false, false_and, ne_eq, List.take_zero, List.take_succ_cons, List.take_nil, List.drop_zero, List.drop_succ_cons, List.drop_nil, decide_true, decide_false, c_gfp_Deg, c_gfp_Add, c_gfp_Own, c_gfdiv_lift]
  refine ⟨by omega, fun _ id hid => ⟨by omega, fun _ => ?_⟩⟩
  obtain ⟨A, hA⟩ : ∃ A, pv xs = A := ⟨_, rfl⟩
  obtain ⟨B, hBB⟩ : ∃ B, pv ys = B := ⟨_, rfl⟩
  have hbA : bl A ≤ 64 * xs.length := by rw [← hA]; exact bl_pv hx
  have hbB : bl B ≤ 64 * ys.length := by rw [← hBB]; exact bl_pv hy
  have hB0 := bl_pos.2 hB
  rw [hBB] at hB hB0
  rw [hA, hBB]
  refine ⟨Nat × Nat, fun p => ⟨[.sl (els (V.n .u64) xs), .sl (els (V.n .u64) ys), .u, .u, .ref 4 1 2 0 0, .obj id 0, .z ((bl B : Int) - 1), .u, .u, .u, .u, .u, .u, .u, .u, .u, .u, .u, .u, .u, .u, .u, .u, .u, .u, .u, .u, .u, .u, .u, .u, .u, .u, .u, .u], [(4, ⟨2, true, [.agg [.nils, .nils]], false⟩)], om.put id [.sl (els (V.n .u64) (wd p.1)), .sl (els (V.n .u64) (wd p.2))]⟩, fun p => A = cm p.1 B ^^^ p.2 ∧ bl p.2 ≤ bl A ∧ bl p.1 ≤ bl A, fun p => bl p.2, ⟨(0, A), ⟨by simp [cm_zero_left], Nat.le_refl _, by simp [bl_zero]⟩, ?_⟩, ?_⟩
  · simp only [go_sem, Nat.reduceEqDiff, Nat.reduceBEq, Int.reduceToNat, Nat.reducePow, Nat.reduceMod, Nat.reduceAdd, Nat.reduceSub, Nat.reduceMul, Nat.reduceDiv, Nat.reduceLeDiff, Int.reduceAdd, Int.reduceSub, Int.reduceMul, Int.reduceDiv, Int.reduceMod, Int.reduceLE, Int.reduceLT, Int.reduceNeg, Int.reduceEq, Int.cast_ofNat_Int, Int.natCast_zero, List.contains_cons, List.contains_nil, Bool.or_false, Bool.or_true, Bool.true_or, reduceCtorEq, or_false, or_true, false_or, true_or, and_false, false_and, ne_eq, List.take_zero, List.take_succ_cons, List.take_nil, List.drop_zero, List.drop_succ_cons, List.drop_nil, decide_true, decide_false, c_gfp_Deg, c_gfp_Add, c_gfp_Own, c_gfdiv_lift]
  · rintro ⟨q, r⟩ ⟨h1, h2, h3⟩
    simp only at h1 h2 h3
    simp only [go_sem, Nat.reduceEqDiff, Nat.reduceBEq, Int.reduceToNat, Nat.reducePow, Nat.reduceMod, Nat.reduceAdd, Nat.reduceSub, Nat.reduceMul, Nat.reduceDiv, Nat.reduceLeDiff, Int.reduceAdd, Int.reduceSub, Int.reduceMul, Int.reduceDiv, Int.reduceMod, Int.reduceLE, Int.reduceLT, Int.reduceNeg, Int.reduceEq, Int.cast_ofNat_Int, Int.natCast_zero, List.contains_cons, List.contains_nil, Bool.or_false, Bool.or_true, Bool.true_or, reduceCtorEq, or_false, or_true, false_or, true_or, and_false, false_and, ne_eq, List.take_zero, List.take_succ_cons, List.take_nil, List.drop_zero, List.drop_succ_cons, List.drop_nil, decide_true, decide_false, c_gfp_Deg, c_gfp_Add, c_gfp_Own, c_gfdiv_lift, hBB]
    refine ⟨by omega, fun _ => ⟨by omega, fun hlt => ⟨by omega, by omega, .put hid (.refl _), ?_⟩, fun hge => ?_⟩⟩
    · obtain ⟨e1, e2⟩ := qr_eq h1 (by omega)
      exact ⟨e1.symm, e2.symm⟩
    · have e : ((bl r : Int) - 1 - ((bl B : Int) - 1)).toNat = bl r - bl B := by omega
      rw [e]
      have hr0 : r ≠ 0 := bl_pos.1 (by omega)
      have b1 : bl (1 <<< (bl r - bl B)) = bl r - bl B + 1 := by rw [bl_shl (by omega)]; show 1 + _ = _; omega
      have b2 : bl (B <<< (bl r - bl B)) = bl r := by rw [bl_shl hB]; omega
      have b3 := bl_xor_le q (1 <<< (bl r - bl B))
      have b4 := red_lt (a := r) (b := B) hB (by omega)
      refine ⟨by omega, by omega, fun _ => ⟨by omega, fun _ => ⟨by omega, fun _ => ⟨by omega, fun _ => ⟨(q ^^^ 1 <<< (bl r - bl B), r ^^^ B <<< (bl r - bl B)), ⟨?_, by show bl (r ^^^ _) ≤ _; omega, by show bl (q ^^^ _) ≤ _; omega⟩, ?_, b4⟩⟩⟩⟩⟩
      · show A = cm (q ^^^ 1 <<< (bl r - bl B)) B ^^^ (r ^^^ B <<< (bl r - bl B))
        rw [cm_xor_left, cm_shl_left, cm_one_left, h1]
        rw [show cm q B ^^^ B <<< (bl r - bl B) ^^^ (r ^^^ B <<< (bl r - bl B)) = cm q B ^^^ r ^^^ (B <<< (bl r - bl B) ^^^ B <<< (bl r - bl B)) by ac_rfl, Nat.xor_self, Nat.xor_zero]
      · exact .refl _

def c_gfdiv_Div : Cn := fn2i tU tU (fun xs ys => xs.length ≤ 1048576 ∧ ys.length ≤ 1048576) (fun _ ys => pv ys = 0) (fun _ _ => .tup [vP 0, vP 0, .z 8]) fun xs ys => .tup [vP (qd (pv xs) (pv ys)), vP (rm (pv xs) (pv ys)), .z 0]
noncomputable def cx_gfdiv_Div : Cx := { T := T, E := E, cs := [(26, c_gfp_Deg), (85, c_gfdiv_parts)], sch := [(4, false, .take 0 (.take 1 (.take 2 (.take 3 (.take 4 (.take 5 (.take 6 (.done))))))))], ob := [], qs := [26, 85] }
@[go_sem] theorem cx_gfdiv_Div_md : cx_gfdiv_Div.md = 0 := rfl
@[go_sem] theorem cx_gfdiv_Div_T : cx_gfdiv_Div.T = T := rfl
@[go_sem] theorem cx_gfdiv_Div_E : cx_gfdiv_Div.E = E := rfl
@[go_sem] theorem cx_gfdiv_Div_cs : cx_gfdiv_Div.cs = [(26, c_gfp_Deg), (85, c_gfdiv_parts)] := rfl
@[go_sem] theorem cx_gfdiv_Div_sch : cx_gfdiv_Div.sch = [(4, false, .take 0 (.take 1 (.take 2 (.take 3 (.take 4 (.take 5 (.take 6 (.done))))))))] := rfl
@[go_sem] theorem cx_gfdiv_Div_ob (d : Nat) : (cx_gfdiv_Div.ob).contains d = false := rfl
theorem cok_gfdiv_Div : COk Try.prog (cx_gfdiv_Div) := cok_of rfl (.cons ok_gfp_Deg (.cons ok_gfdiv_parts (.nil))) (.cons (fun _ => fn1_quiet) (.cons (fun _ => fn2_quiet) (.nil))) (.nil)
theorem ok_gfdiv_Div : Ok Try.prog 66 c_gfdiv_Div := by
  refine ok_fn2i cok_gfdiv_Div mixed Try.func66 rfl (by kernel_rfl) (by kernel_rfl) rfl ?_
  intro xs ys om hw ⟨hl, hl'⟩
  have hb0 := bl_eq_zero (x := pv ys)
  simp only [go_sem, Try.f66, Nat.reduceEqDiff, Nat.reduceBEq, Int.reduceToNat, Nat.reducePow, Nat.reduceMod, Nat.reduceAdd, Nat.reduceSub, Nat.reduceMul, Nat.reduceDiv, Nat.reduceLeDiff, Int.reduceAdd, Int.reduceSub, Int.reduceMul, Int.reduceDiv, Int.reduceMod, Int.reduceLE, Int.reduceLT, Int.reduceNeg, Int.reduceEq, Int.cast_ofNat_Int, Int.natCast_zero, List.contains_cons, List.contains_nil, Bool.or_false, Bool.or_true, Bool.true_or, reduceCtorEq, or_false, or_true, false_or, true_or, and_false, false_and, ne_eq, List.take_zero, List.take_succ_cons, List.take_nil, List.drop_zero, List.drop_succ_cons, List.drop_nil, decide_true, decide_false, c_gfp_Deg, c_gfdiv_parts]
  refine ⟨by omega, fun _ => ⟨fun h => ?_, fun h => ⟨⟨hl, hl', by omega⟩, fun _ => ⟨by omega, by omega, by omega, ?_⟩⟩⟩⟩
  · rw [if_pos (by omega)]
  · rw [if_neg (by omega)]

def c_gfdiv_Mod : Cn := fn2i tU tU (fun xs ys => xs.length ≤ 1048576 ∧ ys.length ≤ 1048576) (fun _ ys => pv ys = 0) (fun _ _ => .tup [vP 0, .z 8]) fun xs ys => .tup [vP (rm (pv xs) (pv ys)), .z 0]
noncomputable def cx_gfdiv_Mod : Cx := { T := T, E := E, cs := [(66, c_gfdiv_Div)], sch := [], ob := [], qs := [66] }
@[go_sem] theorem cx_gfdiv_Mod_md : cx_gfdiv_Mod.md = 0 := rfl
@[go_sem] theorem cx_gfdiv_Mod_T : cx_gfdiv_Mod.T = T := rfl
@[go_sem] theorem cx_gfdiv_Mod_E : cx_gfdiv_Mod.E = E := rfl
@[go_sem] theorem cx_gfdiv_Mod_cs : cx_gfdiv_Mod.cs = [(66, c_gfdiv_Div)] := rfl
@[go_sem] theorem cx_gfdiv_Mod_ob (d : Nat) : (cx_gfdiv_Mod.ob).contains d = false := rfl
theorem cok_gfdiv_Mod : COk Try.prog (cx_gfdiv_Mod) := cok_of rfl (.cons ok_gfdiv_Div (.nil)) (.cons (fun _ => fn2i_quiet) (.nil)) (.nil)
theorem ok_gfdiv_Mod : Ok Try.prog 36 c_gfdiv_Mod := by
  refine ok_fn2i cok_gfdiv_Mod mixed Try.func36 rfl (by kernel_rfl) (by kernel_rfl) rfl ?_
  intro xs ys om hw ⟨hl, hl'⟩
  simp only [go_sem, Try.f36, Nat.reduceEqDiff, Nat.reduceBEq, Int.reduceToNat, Nat.reducePow, Nat.reduceMod, Nat.reduceAdd, Nat.reduceSub, Nat.reduceMul, Nat.reduceDiv, Nat.reduceLeDiff, Int.reduceAdd, Int.reduceSub, Int.reduceMul, Int.reduceDiv, Int.reduceMod, Int.reduceLE, Int.reduceLT, Int.reduceNeg, Int.reduceEq, Int.cast_ofNat_Int, Int.natCast_zero, List.contains_cons, List.contains_nil, Bool.or_false, Bool.or_true, Bool.true_or, reduceCtorEq, or_false, or_true, false_or, true_or, and_false, false_and, ne_eq, List.take_zero, List.take_succ_cons, List.take_nil, List.drop_zero, List.drop_succ_cons, List.drop_nil, decide_true, decide_false, c_gfdiv_Div]
  exact ⟨⟨hl, hl'⟩, fun h => by rw [if_pos h], fun h _ => by rw [if_neg h]⟩

def c_gfdiv_MulMod : Cn := fn3i tU tU tU (fun xs ys ps => xs.length ≤ 262144 ∧ ys.length ≤ 262144 ∧ ps.length ≤ 1048576) (fun _ _ ps => pv ps = 0) (fun _ _ _ => .tup [vP 0, .z 8]) fun xs ys ps => .tup [vP (rm (cm (pv xs) (pv ys)) (pv ps)), .z 0]
noncomputable def cx_gfdiv_MulMod : Cx := { T := T, E := E, cs := [(29, c_gfp_Mul), (36, c_gfdiv_Mod)], sch := [], ob := [], qs := [29, 36] }
@[go_sem] theorem cx_gfdiv_MulMod_md : cx_gfdiv_MulMod.md = 0 := rfl
@[go_sem] theorem cx_gfdiv_MulMod_T : cx_gfdiv_MulMod.T = T := rfl
@[go_sem] theorem cx_gfdiv_MulMod_E : cx_gfdiv_MulMod.E = E := rfl
@[go_sem] theorem cx_gfdiv_MulMod_cs : cx_gfdiv_MulMod.cs = [(29, c_gfp_Mul), (36, c_gfdiv_Mod)] := rfl
@[go_sem] theorem cx_gfdiv_MulMod_ob (d : Nat) : (cx_gfdiv_MulMod.ob).contains d = false := rfl
theorem cok_gfdiv_MulMod : COk Try.prog (cx_gfdiv_MulMod) := cok_of rfl (.cons ok_gfp_Mul (.cons ok_gfdiv_Mod (.nil))) (.cons (fun _ => fn2_quiet) (.cons (fun _ => fn2i_quiet) (.nil))) (.nil)
theorem ok_gfdiv_MulMod : Ok Try.prog 32 c_gfdiv_MulMod := by
  refine ok_fn3i cok_gfdiv_MulMod mixed Try.func32 rfl (by kernel_rfl) (by kernel_rfl) rfl ?_
  intro xs ys ps om hw ⟨hl, hl', hl''⟩
  have hx := (wf_u ⟨hw.1, trivial⟩).2
  have hy := (wf_u ⟨hw.2.1, trivial⟩).2
  have b1 := bl_pv hx
  have b2 := bl_pv hy
  have b3 := bl_cm_le (pv xs) (pv ys)
  simp only [go_sem, Try.f32, Nat.reduceEqDiff, Nat.reduceBEq, Int.reduceToNat, Nat.reducePow, Nat.reduceMod, Nat.reduceAdd, Nat.reduceSub, Nat.reduceMul, Nat.reduceDiv, Nat.reduceLeDiff, Int.reduceAdd, Int.reduceSub, Int.reduceMul, Int.reduceDiv, Int.reduceMod, Int.reduceLE, Int.reduceLT, Int.reduceNeg, Int.reduceEq, Int.cast_ofNat_Int, Int.natCast_zero, List.contains_cons, List.contains_nil, Bool.or_false, Bool.or_true, Bool.true_or, reduceCtorEq, or_false, or_true, false_or, true_or, and_false, false_and, ne_eq, List.take_zero, List.take_succ_cons, List.take_nil, List.drop_zero, List.drop_succ_cons, List.drop_nil, decide_true, decide_false, c_gfp_Mul, c_gfdiv_Mod]
  refine ⟨by omega, fun _ => ⟨by omega, fun h => by rw [if_pos h], fun h _ => by rw [if_neg h]⟩⟩
end Go.Proofs.Ytaojebdjkpdcdaa.I
