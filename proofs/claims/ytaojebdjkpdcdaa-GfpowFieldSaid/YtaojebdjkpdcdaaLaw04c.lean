/- GfpowParts, GfpowField, as contracts. -/
import Derived.Test.YtaojebdjkpdcdaaLaw04
namespace Go.Proofs.Ytaojebdjkpdcdaa.I
open Go
set_option maxRecDepth 10000
set_option linter.unusedSimpArgs false
set_option linter.unusedVariables false

theorem pv_one' (x : Nat) : pv [x] = x := by simp [pv]
theorem triF_iff (p : Nat) : triF p 510 = true ↔ ∀ q, 2 ≤ q → q < 512 → 2 * (bl q - 1) ≤ bl p - 1 → rm p q ≠ 0 := by
  unfold triF
  rw [List.all_eq_true]
  constructor
  · intro h q h1 h2 h3 h4
    have := h (q - 2) (List.mem_range.2 (by omega))
    unfold tryD at this
    rw [show q - 2 + 2 = q by omega, decide_eq_true h3, decide_eq_true h4] at this
    cases this
  · intro h i hi
    have := h (i + 2) (by omega) (by have := List.mem_range.1 hi; omega)
    unfold tryD
    by_cases h3 : 2 * (bl (i + 2) - 1) ≤ bl p - 1
    · rw [decide_eq_false (this h3), Bool.and_false]; rfl
    · rw [decide_eq_false h3]; rfl
/-- Trying tells the same, where it tries all. -/
theorem tri_ben {p : Nat} (h : bl p ≤ 17) : tri p = ben p := by
  rw [Bool.eq_iff_iff, ben_irr]
  unfold tri
  rw [Bool.and_eq_true, decide_eq_true_eq, triF_iff]
  constructor
  · rintro ⟨h1, h2⟩
    refine ⟨Classical.byContradiction fun hc => ?_, by omega⟩
    obtain ⟨q, hq, hd, hl⟩ := part_of h1 hc
    have hq2 := hq.1
    have : bl q ≤ 9 := by omega
    refine h2 q ?_ (bl_lt.1 this) hl ((rm_zero_iff hq.ne).2 hd)
    rcases Nat.lt_or_ge q 2 with g | g
    · have : bl q ≤ 1 := bl_lt.2 g
      omega
    · exact g
  · rintro ⟨h1, _⟩
    refine ⟨h1.1, fun q h2 _ h3 h4 => ?_⟩
    have hq0 : q ≠ 0 := by omega
    have := h1.2 q ((rm_zero_iff hq0).1 h4)
    have hp2 := h1.1
    rcases this with rfl | rfl <;> omega
theorem ben_cm {b c : Nat} (hb : 2 ≤ b) (hc : 2 ≤ c) : ben (cm b c) = false := by
  cases h : ben (cm b c) with
  | false => rfl
  | true =>
    have h := (ben_irr.1 h).1
    have lb : ∀ z, 2 ≤ z → 2 ≤ bl z := fun z hz => by
      rcases Nat.lt_or_ge (bl z) 2 with g | g
      · have : z < 2 ^ 1 := bl_lt.1 (by omega)
        omega
      · exact g
    have b1 := lb b hb
    have b2 := lb c hc
    have b3 := bl_cm (a := b) (b := c) (by omega) (by omega)
    rcases h.2 b (dv_mul_self' b c) with e | e
    · omega
    · rw [← e] at b3; omega

def c_law04_GfpowParts : Cn := fn3 (tN .u32) (tN .u64) (tN .u64) (fun _ _ _ => True) fun _ _ _ => .b true
noncomputable def cx_law04_GfpowParts : Cx := { T := T, cs := [(13, c_law04_awake), (18, c_ref02_Parts), (29, c_gfp_Mul), (30, c_gfpow_Irreducible), (31, c_ref04_Irreducible)], sch := [], ob := [], qs := [13, 18, 29, 30, 31] }
@[go_sem] theorem cx_law04_GfpowParts_md : cx_law04_GfpowParts.md = 0 := rfl
@[go_sem] theorem cx_law04_GfpowParts_T : cx_law04_GfpowParts.T = T := rfl
@[go_sem] theorem cx_law04_GfpowParts_cs : cx_law04_GfpowParts.cs = [(13, c_law04_awake), (18, c_ref02_Parts), (29, c_gfp_Mul), (30, c_gfpow_Irreducible), (31, c_ref04_Irreducible)] := rfl
@[go_sem] theorem cx_law04_GfpowParts_ob (d : Nat) : (cx_law04_GfpowParts.ob).contains d = false := rfl
theorem cok_law04_GfpowParts : COk Try.prog (cx_law04_GfpowParts) := cok_of rfl (.cons ok_law04_awake (.cons ok_ref02_Parts (.cons ok_gfp_Mul (.cons ok_gfpow_Irreducible (.cons ok_ref04_Irreducible (.nil)))))) (.cons (fun _ => fn0_quiet) (.cons (fun _ => fn1_quiet) (.cons (fun _ => fn2_quiet) (.cons (fun _ => fn1_quiet) (.cons (fun _ => fn1_quiet) (.nil)))))) (.nil)
set_option maxHeartbeats 4000000 in
theorem ok_law04_GfpowParts : Ok Try.prog 5 c_law04_GfpowParts := by
  refine ok_fn3 cok_law04_GfpowParts mixed Try.func5 rfl (by kernel_rfl) (by kernel_rfl) rfl ?_
  intro a b c om hw _
  have hb : b < 18446744073709551616 := hw.2.1
  have hc : c < 18446744073709551616 := hw.2.2.1
  have a1 : a % 131072 < 131072 := Nat.mod_lt _ (by omega)
  obtain ⟨A, hA⟩ : ∃ A, a % 131072 = A := ⟨_, rfl⟩
  rw [hA] at a1
  have l1 : bl A ≤ 17 := bl_lt.2 a1
  have l2 : bl b ≤ 64 := bl_lt.2 hb
  have l3 : bl c ≤ 64 := bl_lt.2 hc
  have l4 := bl_cm_le b c
  have q : A % 18446744073709551616 = A := Nat.mod_eq_of_lt (by omega)
  have t := tri_ben l1
  have hcm := ben_cm (b := b) (c := c)
  simp (maxSteps := 10000000) only [go_sem, Try.f5, Nat.reduceEqDiff, Nat.reduceBEq, Int.reduceToNat, Nat.reducePow, Nat.reduceMod, Nat.reduceAdd, Nat.reduceSub, Nat.reduceMul, Nat.reduceDiv, Nat.reduceLeDiff, Int.reduceAdd, Int.reduceSub, Int.reduceMul, Int.reduceDiv, Int.reduceMod, Int.reduceLE, Int.reduceLT, Int.reduceNeg, Int.reduceEq, Int.cast_ofNat_Int, Int.natCast_zero, List.contains_cons, List.contains_nil, Bool.or_false, Bool.or_true, Bool.true_or, reduceCtorEq, or_false, or_true, false_or, true_or, and_false, false_and, ne_eq, List.take_zero, List.take_succ_cons, List.take_nil, List.drop_zero, List.drop_succ_cons, List.drop_nil, decide_true, decide_false, c_law04_awake, c_ref02_Parts, c_gfp_Mul, c_gfpow_Irreducible, c_ref04_Irreducible, hA, q, t, pv_one']
  exact ⟨by omega, by omega, by omega, fun _ _ => ⟨by omega, fun h1 h2 => ⟨by omega, hcm (by omega) (by omega)⟩⟩⟩

def c_law04_GfpowField : Cn := fn2 (tN .u64) (tN .u64) (fun _ _ => True) fun _ _ => .b true
noncomputable def cx_law04_GfpowField : Cx := { T := T, cs := [(13, c_law04_awake), (15, c_gfpow_Pow), (17, c_gfpow_Squares), (26, c_gfp_Deg), (27, c_wide_Of), (30, c_gfpow_Irreducible), (34, c_gfp_Same), (35, c_gfp_X), (36, c_gfdiv_Mod), (37, c_wide_Sub), (38, c_wide_Left)], sch := [], ob := [], qs := [13, 15, 17, 26, 27, 30, 34, 35, 36, 37, 38] }
@[go_sem] theorem cx_law04_GfpowField_md : cx_law04_GfpowField.md = 0 := rfl
@[go_sem] theorem cx_law04_GfpowField_T : cx_law04_GfpowField.T = T := rfl
@[go_sem] theorem cx_law04_GfpowField_cs : cx_law04_GfpowField.cs = [(13, c_law04_awake), (15, c_gfpow_Pow), (17, c_gfpow_Squares), (26, c_gfp_Deg), (27, c_wide_Of), (30, c_gfpow_Irreducible), (34, c_gfp_Same), (35, c_gfp_X), (36, c_gfdiv_Mod), (37, c_wide_Sub), (38, c_wide_Left)] := rfl
@[go_sem] theorem cx_law04_GfpowField_ob (d : Nat) : (cx_law04_GfpowField.ob).contains d = false := rfl
theorem cok_law04_GfpowField : COk Try.prog (cx_law04_GfpowField) := cok_of rfl (.cons ok_law04_awake (.cons ok_gfpow_Pow (.cons ok_gfpow_Squares (.cons ok_gfp_Deg (.cons ok_wide_Of (.cons ok_gfpow_Irreducible (.cons ok_gfp_Same (.cons ok_gfp_X (.cons ok_gfdiv_Mod (.cons ok_wide_Sub (.cons ok_wide_Left (.nil)))))))))))) (.cons (fun _ => fn0_quiet) (.cons (fun _ => fn3i_quiet) (.cons (fun _ => fn3j_quiet) (.cons (fun _ => fn1_quiet) (.cons (fun _ => fn1_quiet) (.cons (fun _ => fn1_quiet) (.cons (fun _ => fn2_quiet) (.cons (fun _ => fn1_quiet) (.cons (fun _ => fn2i_quiet) (.cons (fun _ => fn2_quiet) (.cons (fun _ => fn2_quiet) (.nil)))))))))))) (.nil)
set_option maxHeartbeats 4000000 in
theorem ok_law04_GfpowField : Ok Try.prog 7 c_law04_GfpowField := by
  refine ok_fn2 cok_law04_GfpowField mixed Try.func7 rfl (by kernel_rfl) (by kernel_rfl) rfl ?_
  intro a b om hw _
  have ha : a < 18446744073709551616 := hw.1
  have hb : b < 18446744073709551616 := hw.2.1
  have l1 : bl a ≤ 64 := bl_lt.2 ha
  have l2 : bl b ≤ 64 := bl_lt.2 hb
  cases hi : ben a with
  | false =>
    simp (maxSteps := 10000000) only [go_sem, Try.f7, Nat.reduceEqDiff, Nat.reduceBEq, Int.reduceToNat, Nat.reducePow, Nat.reduceMod, Nat.reduceAdd, Nat.reduceSub, Nat.reduceMul, Nat.reduceDiv, Nat.reduceLeDiff, Int.reduceAdd, Int.reduceSub, Int.reduceMul, Int.reduceDiv, Int.reduceMod, Int.reduceLE, Int.reduceLT, Int.reduceNeg, Int.reduceEq, Int.cast_ofNat_Int, Int.natCast_zero, List.contains_cons, List.contains_nil, Bool.or_false, Bool.or_true, Bool.true_or, reduceCtorEq, or_false, or_true, false_or, true_or, and_false, false_and, ne_eq, List.take_zero, List.take_succ_cons, List.take_nil, List.drop_zero, List.drop_succ_cons, List.drop_nil, decide_true, decide_false, c_law04_awake, c_gfpow_Pow, c_gfpow_Squares, c_gfp_Deg, c_wide_Of, c_gfpow_Irreducible, c_gfp_Same, c_gfp_X, c_gfdiv_Mod, c_wide_Sub, c_wide_Left, hi, pv_one']
    exact Nat.zero_lt_one
  | true =>
  have I := (ben_irr.1 hi).1
  have hz := I.ne
  have hd := I.1
  have s1 : sqn 2 a (bl a - 1) = rm 2 a := by rw [sqn_cpw 2 hz]; exact (rm_eq_iff hz).2 (I.back 2)
  have e1 : upP 1 1 = 2 := rfl
  have e2 : ((bl a : Int) - 1).toNat = bl a - 1 := by omega
  have c1 : ((bl a : Int) - 1 < 0 ∨ 2048 < (bl a : Int) - 1) = False := eq_false (by omega)
  have d1 : tW.dec (.agg [.n .u64 0, .n .u64 1]) = some 1 := tW_dec 1
  have hp2 : 2 ^ (bl a - 1) ≤ 2 ^ 63 := Nat.pow_le_pow_right (by omega) (by omega)
  have hp1 : 0 < 2 ^ (bl a - 1) := Nat.two_pow_pos _
  have hS : 1 <<< (bl a - 1) % 340282366920938463463374607431768211456 = 2 ^ (bl a - 1) := by
    rw [Nat.one_shiftLeft, Nat.mod_eq_of_lt (by omega)]
  obtain ⟨N, hN⟩ : ∃ N, 2 ^ (bl a - 1) - 1 = N := ⟨_, rfl⟩
  have hN' : (2 ^ (bl a - 1) + 340282366920938463463374607431768211456 - 1) % 340282366920938463463374607431768211456 = N := by omega
  have r1 : rm 1 a = 1 := rm_small (by rw [show bl 1 = 1 from rfl]; omega)
  have b2 : bl 2 = 2 := rfl
  have b3 : bl 1 = 1 := rfl
  have p1 := rm_lt 2 hz
  have p2 := rm_lt b hz
  have p3 := pwr_lt (rm b a) hz N
  rcases Decidable.em (rm b a = 0) with h0 | h0
  · simp (maxSteps := 10000000) only [go_sem, Try.f7, Nat.reduceEqDiff, Nat.reduceBEq, Int.reduceToNat, Nat.reducePow, Nat.reduceMod, Nat.reduceAdd, Nat.reduceSub, Nat.reduceMul, Nat.reduceDiv, Nat.reduceLeDiff, Int.reduceAdd, Int.reduceSub, Int.reduceMul, Int.reduceDiv, Int.reduceMod, Int.reduceLE, Int.reduceLT, Int.reduceNeg, Int.reduceEq, Int.cast_ofNat_Int, Int.natCast_zero, List.contains_cons, List.contains_nil, Bool.or_false, Bool.or_true, Bool.true_or, reduceCtorEq, or_false, or_true, false_or, true_or, and_false, false_and, ne_eq, List.take_zero, List.take_succ_cons, List.take_nil, List.drop_zero, List.drop_succ_cons, List.drop_nil, decide_true, decide_false, c_law04_awake, c_gfpow_Pow, c_gfpow_Squares, c_gfp_Deg, c_wide_Of, c_gfpow_Irreducible, c_gfp_Same, c_gfp_X, c_gfdiv_Mod, c_wide_Sub, c_wide_Left, hi, pv_one', hz, e1, e2, s1, c1, d1, hS, hN', h0, bl_zero]
    rw [h0] at p3
    clear hw
    repeat' (first | with_reducible refine And.intro ?_ ?_ | with_reducible intro _)
    all_goals first | omega | trivial
  · have f : pwr (rm b a) a N = 1 := by
      rw [pwr_cpw _ hz, ← hN]
      have nd : ¬ dv a (rm b a) := fun d => h0 (dv_small d p2)
      rw [(rm_eq_iff hz).2 (I.fermat nd), r1]
    have z2 := bl_eq_zero (x := rm b a)
    simp (maxSteps := 10000000) only [go_sem, Try.f7, Nat.reduceEqDiff, Nat.reduceBEq, Int.reduceToNat, Nat.reducePow, Nat.reduceMod, Nat.reduceAdd, Nat.reduceSub, Nat.reduceMul, Nat.reduceDiv, Nat.reduceLeDiff, Int.reduceAdd, Int.reduceSub, Int.reduceMul, Int.reduceDiv, Int.reduceMod, Int.reduceLE, Int.reduceLT, Int.reduceNeg, Int.reduceEq, Int.cast_ofNat_Int, Int.natCast_zero, List.contains_cons, List.contains_nil, Bool.or_false, Bool.or_true, Bool.true_or, reduceCtorEq, or_false, or_true, false_or, true_or, and_false, false_and, ne_eq, List.take_zero, List.take_succ_cons, List.take_nil, List.drop_zero, List.drop_succ_cons, List.drop_nil, decide_true, decide_false, c_law04_awake, c_gfpow_Pow, c_gfpow_Squares, c_gfp_Deg, c_wide_Of, c_gfpow_Irreducible, c_gfp_Same, c_gfp_X, c_gfdiv_Mod, c_wide_Sub, c_wide_Left, hi, pv_one', hz, e1, e2, s1, c1, d1, hS, hN', f]
    clear hw
    repeat' (first | with_reducible refine And.intro ?_ ?_ | with_reducible intro _)
    all_goals first | omega | trivial
end Go.Proofs.Ytaojebdjkpdcdaa.I
