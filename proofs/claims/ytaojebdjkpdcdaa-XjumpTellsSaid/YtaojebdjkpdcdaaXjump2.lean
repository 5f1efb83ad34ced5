/- xjump: Rule, Poly, Jump, Powers. -/
import Derived.Test.YtaojebdjkpdcdaaXact
import Derived.Test.YtaojebdjkpdcdaaMassey2
import Derived.Test.YtaojebdjkpdcdaaGfpow2
namespace Go.Proofs.Ytaojebdjkpdcdaa.I
open Go
set_option maxRecDepth 10000
set_option linter.unusedSimpArgs false
set_option linter.unusedVariables false

noncomputable def c_xjump_Rule : Cn := fn0 (vP RP)
noncomputable def cx_xjump_Rule : Cx := { T := T, E := E, cs := [(76, c_xosh_Bits), (77, c_massey_Least)], sch := [], ob := [], qs := [76, 77] }
@[go_sem] theorem cx_xjump_Rule_md : cx_xjump_Rule.md = 0 := rfl
@[go_sem] theorem cx_xjump_Rule_T : cx_xjump_Rule.T = T := rfl
@[go_sem] theorem cx_xjump_Rule_E : cx_xjump_Rule.E = E := rfl
@[go_sem] theorem cx_xjump_Rule_cs : cx_xjump_Rule.cs = [(76, c_xosh_Bits), (77, c_massey_Least)] := rfl
@[go_sem] theorem cx_xjump_Rule_ob (d : Nat) : (cx_xjump_Rule.ob).contains d = false := rfl
theorem cok_xjump_Rule : COk Try.prog (cx_xjump_Rule) := cok_of rfl (.cons ok_xosh_Bits (.cons ok_massey_Least (.nil))) (.cons (fun _ => fn2i_quiet) (.cons (fun _ => fn1i_quiet) (.nil))) (.nil)
theorem ok_xjump_Rule : Ok Try.prog 49 c_xjump_Rule := by
  refine ok_fn0 cok_xjump_Rule mixed Try.func49 rfl (by kernel_rfl) (by kernel_rfl) rfl ?_
  intro om
  have h1 : lst (xbits ⟨1, 0, 0, 0⟩ 512) = RP := lst_RP
  have h2 : lc (xbits ⟨1, 0, 0, 0⟩ 512) = 256 := lc_RP
  simp only [go_sem, Try.f49, Nat.reduceEqDiff, Nat.reduceBEq, Int.reduceToNat, Nat.reducePow, Nat.reduceMod, Nat.reduceAdd, Nat.reduceSub, Nat.reduceMul, Nat.reduceDiv, Nat.reduceLeDiff, Int.reduceAdd, Int.reduceSub, Int.reduceMul, Int.reduceDiv, Int.reduceMod, Int.reduceLE, Int.reduceLT, Int.reduceNeg, Int.reduceEq, Int.cast_ofNat_Int, Int.natCast_zero, List.contains_cons, List.contains_nil, Bool.or_false, Bool.or_true, Bool.true_or, reduceCtorEq, or_false, or_true, false_or, true_or, and_false, false_and, ne_eq, List.take_zero, List.take_succ_cons, List.take_nil, List.drop_zero, List.drop_succ_cons, List.drop_nil, decide_true, decide_false, c_xosh_Bits, c_massey_Least, Nat.reduceLT, Nat.zero_lt_one, Nat.zero_add, Int.toNat_natCast, Nat.zero_le, Nat.le_refl, xbits_len, h1, h2]

noncomputable def c_xjump_Poly : Cn := fn1 tW (fun _ => True) fun n => vP (pwr 2 RP n)
noncomputable def cx_xjump_Poly : Cx := { T := T, E := E, cs := [(16, c_gfpow_X), (49, c_xjump_Rule)], sch := [(1, false, .take 0 (.alt 1 (.alt 2 (.take 3 (.take 4 (.take 5 (.take 6 (.take 7 (.done)))))) .no) .no))], ob := [], qs := [16, 49] }
@[go_sem] theorem cx_xjump_Poly_md : cx_xjump_Poly.md = 0 := rfl
@[go_sem] theorem cx_xjump_Poly_T : cx_xjump_Poly.T = T := rfl
@[go_sem] theorem cx_xjump_Poly_E : cx_xjump_Poly.E = E := rfl
@[go_sem] theorem cx_xjump_Poly_cs : cx_xjump_Poly.cs = [(16, c_gfpow_X), (49, c_xjump_Rule)] := rfl
@[go_sem] theorem cx_xjump_Poly_sch : cx_xjump_Poly.sch = [(1, false, .take 0 (.alt 1 (.alt 2 (.take 3 (.take 4 (.take 5 (.take 6 (.take 7 (.done)))))) .no) .no))] := rfl
@[go_sem] theorem cx_xjump_Poly_ob (d : Nat) : (cx_xjump_Poly.ob).contains d = false := rfl
theorem cok_xjump_Poly : COk Try.prog (cx_xjump_Poly) := cok_of rfl (.cons ok_gfpow_X (.cons ok_xjump_Rule (.nil))) (.cons (fun _ => fn2i_quiet) (.cons (fun _ => fn0_quiet) (.nil))) (.nil)
theorem ok_xjump_Poly : Ok Try.prog 69 c_xjump_Poly := by
  refine ok_fn1 cok_xjump_Poly mixed Try.func69 rfl (by kernel_rfl) (by kernel_rfl) rfl ?_
  intro n om hw _
  have hR : (RP = 0) = False := eq_false RP_ne
  simp only [go_sem, Try.f69, Nat.reduceEqDiff, Nat.reduceBEq, Int.reduceToNat, Nat.reducePow, Nat.reduceMod, Nat.reduceAdd, Nat.reduceSub, Nat.reduceMul, Nat.reduceDiv, Nat.reduceLeDiff, Int.reduceAdd, Int.reduceSub, Int.reduceMul, Int.reduceDiv, Int.reduceMod, Int.reduceLE, Int.reduceLT, Int.reduceNeg, Int.reduceEq, Int.cast_ofNat_Int, Int.natCast_zero, List.contains_cons, List.contains_nil, Bool.or_false, Bool.or_true, Bool.true_or, reduceCtorEq, or_false, or_true, false_or, true_or, and_false, false_and, ne_eq, List.take_zero, List.take_succ_cons, List.take_nil, List.drop_zero, List.drop_succ_cons, List.drop_nil, decide_true, decide_false, c_gfpow_X, c_xjump_Rule, Nat.reduceLT, Nat.zero_lt_one, Nat.zero_add, Int.toNat_natCast, Nat.zero_le, Nat.le_refl, hR, bl_RP]

noncomputable def c_xjump_Jump : Cn := fn2i tX tW (fun _ _ => True) (fun s _ => s = x0) (fun _ _ => .tup [vX x0, .z 3]) fun s n => .tup [vX (xst s n), .z 0]
noncomputable def cx_xjump_Jump : Cx := { T := T, E := E, cs := [(42, c_xjump_At), (48, c_xosh_Right), (69, c_xjump_Poly)], sch := [(3, false, .take 0 (.take 2 (.alt 1 (.alt 3 (.alt 4 (.take 5 (.done)) .no) .no) .no)))], ob := [], qs := [42, 48, 69] }
@[go_sem] theorem cx_xjump_Jump_md : cx_xjump_Jump.md = 0 := rfl
@[go_sem] theorem cx_xjump_Jump_T : cx_xjump_Jump.T = T := rfl
@[go_sem] theorem cx_xjump_Jump_E : cx_xjump_Jump.E = E := rfl
@[go_sem] theorem cx_xjump_Jump_cs : cx_xjump_Jump.cs = [(42, c_xjump_At), (48, c_xosh_Right), (69, c_xjump_Poly)] := rfl
@[go_sem] theorem cx_xjump_Jump_sch : cx_xjump_Jump.sch = [(3, false, .take 0 (.take 2 (.alt 1 (.alt 3 (.alt 4 (.take 5 (.done)) .no) .no) .no)))] := rfl
@[go_sem] theorem cx_xjump_Jump_ob (d : Nat) : (cx_xjump_Jump.ob).contains d = false := rfl
theorem cok_xjump_Jump : COk Try.prog (cx_xjump_Jump) := cok_of rfl (.cons ok_xjump_At (.cons ok_xosh_Right (.cons ok_xjump_Poly (.nil)))) (.cons (fun _ => fn2_quiet) (.cons (fun _ => fn1_quiet) (.cons (fun _ => fn1_quiet) (.nil)))) (.nil)
theorem ok_xjump_Jump : Ok Try.prog 40 c_xjump_Jump := by
  refine ok_fn2i cok_xjump_Jump mixed Try.func40 rfl (by kernel_rfl) (by kernel_rfl) rfl ?_
  intro s n om hw _
  have hs : s.wf := wf_x hw
  have hp := pwr_lt 2 RP_ne n
  rw [bl_RP] at hp
  simp only [go_sem, Try.f40, Nat.reduceEqDiff, Nat.reduceBEq, Int.reduceToNat, Nat.reducePow, Nat.reduceMod, Nat.reduceAdd, Nat.reduceSub, Nat.reduceMul, Nat.reduceDiv, Nat.reduceLeDiff, Int.reduceAdd, Int.reduceSub, Int.reduceMul, Int.reduceDiv, Int.reduceMod, Int.reduceLE, Int.reduceLT, Int.reduceNeg, Int.reduceEq, Int.cast_ofNat_Int, Int.natCast_zero, List.contains_cons, List.contains_nil, Bool.or_false, Bool.or_true, Bool.true_or, reduceCtorEq, or_false, or_true, false_or, true_or, and_false, false_and, ne_eq, List.take_zero, List.take_succ_cons, List.take_nil, List.drop_zero, List.drop_succ_cons, List.drop_nil, decide_true, decide_false, c_xjump_At, c_xosh_Right, c_xjump_Poly, Nat.reduceLT, Nat.zero_lt_one, Nat.zero_add, Int.toNat_natCast, Nat.zero_le, Nat.le_refl]
  have ha : xat (pwr 2 RP n) s (bl (pwr 2 RP n)) = xst s n := act_pwr n hs
  refine ⟨fun h _ => ⟨by omega, fun _ => ?_⟩, fun h => ?_⟩
  · rw [if_neg h, ha]
  · rw [if_pos (Decidable.not_not.1 h)]; rfl

noncomputable def c_xjump_Powers : Cn := fn2j tX tZ (fun _ _ => True) (fun s _ => s = x0) (fun _ n => n < 0 ∨ 2048 < n) (fun _ _ => .tup [vX x0, .z 3]) (fun _ _ => .tup [vX x0, .z 1]) fun s n => .tup [vX (xst s (2 ^ n.toNat)), .z 0]
noncomputable def cx_xjump_Powers : Cx := { T := T, E := E, cs := [(17, c_gfpow_Squares), (35, c_gfp_X), (42, c_xjump_At), (48, c_xosh_Right), (49, c_xjump_Rule)], sch := [], ob := [], qs := [17, 35, 42, 48, 49] }
@[go_sem] theorem cx_xjump_Powers_md : cx_xjump_Powers.md = 0 := rfl
@[go_sem] theorem cx_xjump_Powers_T : cx_xjump_Powers.T = T := rfl
@[go_sem] theorem cx_xjump_Powers_E : cx_xjump_Powers.E = E := rfl
@[go_sem] theorem cx_xjump_Powers_cs : cx_xjump_Powers.cs = [(17, c_gfpow_Squares), (35, c_gfp_X), (42, c_xjump_At), (48, c_xosh_Right), (49, c_xjump_Rule)] := rfl
@[go_sem] theorem cx_xjump_Powers_ob (d : Nat) : (cx_xjump_Powers.ob).contains d = false := rfl
theorem cok_xjump_Powers : COk Try.prog (cx_xjump_Powers) := cok_of rfl (.cons ok_gfpow_Squares (.cons ok_gfp_X (.cons ok_xjump_At (.cons ok_xosh_Right (.cons ok_xjump_Rule (.nil)))))) (.cons (fun _ => fn3j_quiet) (.cons (fun _ => fn1_quiet) (.cons (fun _ => fn2_quiet) (.cons (fun _ => fn1_quiet) (.cons (fun _ => fn0_quiet) (.nil)))))) (.nil)
theorem ok_xjump_Powers : Ok Try.prog 41 c_xjump_Powers := by
  refine ok_fn2j ?_
  refine ok_fn2 cok_xjump_Powers mixed Try.func41 rfl (by kernel_rfl) (by kernel_rfl) rfl ?_
  intro s n om hw _
  have hs : s.wf := wf_x hw
  have hp := sqn_lt 2 RP_ne n.toNat
  rw [bl_RP] at hp
  have hu : upP 1 1 = 2 := by decide
  have hR : (RP = 0) = False := eq_false RP_ne
  have hb2 : bl 2 = 2 := by decide
  simp only [go_sem, Try.f41, Nat.reduceEqDiff, Nat.reduceBEq, Int.reduceToNat, Nat.reducePow, Nat.reduceMod, Nat.reduceAdd, Nat.reduceSub, Nat.reduceMul, Nat.reduceDiv, Nat.reduceLeDiff, Int.reduceAdd, Int.reduceSub, Int.reduceMul, Int.reduceDiv, Int.reduceMod, Int.reduceLE, Int.reduceLT, Int.reduceNeg, Int.reduceEq, Int.cast_ofNat_Int, Int.natCast_zero, List.contains_cons, List.contains_nil, Bool.or_false, Bool.or_true, Bool.true_or, reduceCtorEq, or_false, or_true, false_or, true_or, and_false, false_and, ne_eq, List.take_zero, List.take_succ_cons, List.take_nil, List.drop_zero, List.drop_succ_cons, List.drop_nil, decide_true, decide_false, c_gfpow_Squares, c_gfp_X, c_xjump_At, c_xosh_Right, c_xjump_Rule, Nat.reduceLT, Nat.zero_lt_one, Nat.zero_add, Int.toNat_natCast, Nat.zero_le, Nat.le_refl, hu, hR, hb2, bl_RP]
  have ha : xat (sqn 2 RP n.toNat) s (bl (sqn 2 RP n.toNat)) = xst s (2 ^ n.toNat) := act_sqn n.toNat hs
  refine ⟨fun h => ⟨fun g => ?_, fun g _ => ⟨by omega, fun _ => ?_⟩⟩, fun h => ?_⟩
  · rw [if_neg h, if_pos g]; rfl
  · rw [if_neg h, if_neg g, ha]
  · rw [if_pos (Decidable.not_not.1 h)]; rfl
end Go.Proofs.Ytaojebdjkpdcdaa.I
