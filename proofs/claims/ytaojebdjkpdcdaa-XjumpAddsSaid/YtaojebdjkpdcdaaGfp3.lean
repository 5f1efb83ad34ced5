/- gfp: Words, Mul, Square, Up, X. -/
import Derived.Test.YtaojebdjkpdcdaaGfp2
import Derived.Test.YtaojebdjkpdcdaaG1
namespace Go.Proofs.Ytaojebdjkpdcdaa.I
open Go
set_option maxRecDepth 10000
set_option linter.unusedSimpArgs false
set_option linter.unusedVariables false

attribute [go_sem] wds_len wds_take

def c_gfp_Words : Cn := fn2 (tN .u64) (tN .u64) (fun _ _ => True) fun x y => .tup [.n .u64 (wdAt (cm x y) 1), .n .u64 (wdAt (cm x y) 0)]
noncomputable def cx_gfp_Words : Cx := { T := T, E := E, cs := [], sch := [], ob := [], qs := [] }
@[go_sem] theorem cx_gfp_Words_md : cx_gfp_Words.md = 0 := rfl
@[go_sem] theorem cx_gfp_Words_T : cx_gfp_Words.T = T := rfl
@[go_sem] theorem cx_gfp_Words_E : cx_gfp_Words.E = E := rfl
@[go_sem] theorem cx_gfp_Words_cs : cx_gfp_Words.cs = [] := rfl
@[go_sem] theorem cx_gfp_Words_ob (d : Nat) : (cx_gfp_Words.ob).contains d = false := rfl
theorem cok_gfp_Words : COk Try.prog (cx_gfp_Words) := cok_of rfl (.nil) (.nil) (.nil)
theorem ok_gfp_Words : Ok Try.prog 63 c_gfp_Words := by
  refine ok_fn2 cok_gfp_Words mixed Try.func63 rfl (by kernel_rfl) (by kernel_rfl) rfl ?_
  intro a b om hw _
  have ha : a < 18446744073709551616 := by have := hw.1; simpa [tN, V.wf, IntKind.bits] using this
  have hb : b < 18446744073709551616 := by have := hw.2.1; simpa [tN, V.wf, IntKind.bits] using this
  simp only [go_sem, Try.f63, Nat.reduceEqDiff, Nat.reduceBEq, Int.reduceToNat, Nat.reducePow, Nat.reduceMod, Nat.reduceAdd, Nat.reduceSub, Nat.reduceMul, Nat.reduceDiv, Nat.reduceLeDiff, Int.reduceAdd, Int.reduceSub, Int.reduceMul, Int.reduceDiv, Int.reduceMod, Int.reduceLE, Int.reduceLT, Int.reduceNeg, Int.reduceEq, Int.cast_ofNat_Int, Int.natCast_zero, List.contains_cons, List.contains_nil, Bool.or_false, Bool.or_true, Bool.true_or, reduceCtorEq, or_false, or_true, false_or, true_or, and_false, false_and, ne_eq, List.take_zero, List.take_succ_cons, List.take_nil, List.drop_zero, List.drop_succ_cons, List.drop_nil, decide_true, decide_false]
  refine ⟨Nat, fun k => ⟨[.n .u64 a, .n .u64 b, .u, .u, .u, .u, .n .u64 (wdAt (cm a (b % 2 ^ k)) 1), .n .u64 (wdAt (cm a (b % 2 ^ k)) 0), .u, .z k, .u, .u, .u, .u, .u, .u, .u, .u, .u, .u, .u, .u, .u, .u, .u, .u, .u, .u, .u, .u, .u], [], om⟩, fun k => k ≤ 64, fun k => 64 - k, ⟨0, by omega, ?_⟩, ?_⟩
  · simp only [go_sem, Nat.reduceEqDiff, Nat.reduceBEq, Int.reduceToNat, Nat.reducePow, Nat.reduceMod, Nat.reduceAdd, Nat.reduceSub, Nat.reduceMul, Nat.reduceDiv, Nat.reduceLeDiff, Int.reduceAdd, Int.reduceSub, Int.reduceMul, Int.reduceDiv, Int.reduceMod, Int.reduceLE, Int.reduceLT, Int.reduceNeg, Int.reduceEq, Int.cast_ofNat_Int, Int.natCast_zero, List.contains_cons, List.contains_nil, Bool.or_false, Bool.or_true, Bool.true_or, reduceCtorEq, or_false, or_true, false_or, true_or, and_false, false_and, ne_eq, List.take_zero, List.take_succ_cons, List.take_nil, List.drop_zero, List.drop_succ_cons, List.drop_nil, decide_true, decide_false, Nat.pow_zero, Nat.mod_one, cm_zero_right, wdAt_zero_left]
  · intro k hk
    simp only [go_sem, Nat.reduceEqDiff, Nat.reduceBEq, Int.reduceToNat, Nat.reducePow, Nat.reduceMod, Nat.reduceAdd, Nat.reduceSub, Nat.reduceMul, Nat.reduceDiv, Nat.reduceLeDiff, Int.reduceAdd, Int.reduceSub, Int.reduceMul, Int.reduceDiv, Int.reduceMod, Int.reduceLE, Int.reduceLT, Int.reduceNeg, Int.reduceEq, Int.cast_ofNat_Int, Int.natCast_zero, List.contains_cons, List.contains_nil, Bool.or_false, Bool.or_true, Bool.true_or, reduceCtorEq, or_false, or_true, false_or, true_or, and_false, false_and, ne_eq, List.take_zero, List.take_succ_cons, List.take_nil, List.drop_zero, List.drop_succ_cons, List.drop_nil, decide_true, decide_false, shr_and]
    have e1 : k < 64 → (64 - (k : Int)).toNat = 64 - k := fun h => by omega
    have h1 : k < 64 → b.testBit k = true → wdAt (cm a (b % 2 ^ k)) 1 ^^^ a >>> (64 - k) = wdAt (cm a (b % 2 ^ (k + 1))) 1 := fun h hb => by
      rw [cm_mod_succ, wdAt_xor, hb, if_pos rfl, hi_shl ha (by omega)]
    have h2 : b.testBit k = true → wdAt (cm a (b % 2 ^ k)) 0 ^^^ a <<< k % 18446744073709551616 = wdAt (cm a (b % 2 ^ (k + 1))) 0 := fun hb => by
      rw [cm_mod_succ, wdAt_xor, hb, if_pos rfl, lo_shl]
    have h3 : b.testBit k = false → cm a (b % 2 ^ (k + 1)) = cm a (b % 2 ^ k) := fun hb => by
      rw [cm_mod_succ, hb]; simp
    refine ⟨fun h => ⟨by omega, fun hb => ⟨by omega, by omega, by omega, by omega, k + 1, by omega, ⟨?_, ?_, by omega⟩, by omega⟩, fun hb => ⟨by omega, k + 1, by omega, ⟨?_, ?_, by omega⟩, by omega⟩⟩, fun h => ?_⟩
    · rw [e1 (by omega)]; exact h1 (by omega) (by simpa using hb)
    · exact h2 (by simpa using hb)
    · rw [h3 (by simpa using hb)]
    · rw [h3 (by simpa using hb)]
    · obtain rfl : k = 64 := by omega
      rw [Nat.mod_eq_of_lt hb]; exact ⟨rfl, rfl⟩

def c_gfp_Mul : Cn := fn2 tU tU (fun xs ys => xs.length ≤ 4294967296 ∧ ys.length ≤ 4294967296) fun xs ys => vP (cm (pv xs) (pv ys))
noncomputable def cx_gfp_Mul : Cx := { T := T, E := E, cs := [(61, c_gfp_Own), (63, c_gfp_Words)], sch := [], ob := [], qs := [61, 63] }
@[go_sem] theorem cx_gfp_Mul_md : cx_gfp_Mul.md = 0 := rfl
@[go_sem] theorem cx_gfp_Mul_T : cx_gfp_Mul.T = T := rfl
@[go_sem] theorem cx_gfp_Mul_E : cx_gfp_Mul.E = E := rfl
@[go_sem] theorem cx_gfp_Mul_cs : cx_gfp_Mul.cs = [(61, c_gfp_Own), (63, c_gfp_Words)] := rfl
@[go_sem] theorem cx_gfp_Mul_ob (d : Nat) : (cx_gfp_Mul.ob).contains d = false := rfl
theorem cok_gfp_Mul : COk Try.prog (cx_gfp_Mul) := cok_of rfl (.cons ok_gfp_Own (.cons ok_gfp_Words (.nil))) (.cons (fun _ => fn1_quiet) (.cons (fun _ => fn2_quiet) (.nil))) (.nil)
theorem ok_gfp_Mul : Ok Try.prog 29 c_gfp_Mul := by
  refine ok_fn2 cok_gfp_Mul mixed Try.func29 rfl (by kernel_rfl) (by kernel_rfl) rfl ?_
  intro xs ys om hw ⟨hl1, hl2⟩
  have hx := (wf_u ⟨hw.1, trivial⟩).2
  have hy := (wf_u ⟨hw.2.1, trivial⟩).2
  simp only [go_sem, Try.f29, Nat.reduceEqDiff, Nat.reduceBEq, Int.reduceToNat, Nat.reducePow, Nat.reduceMod, Nat.reduceAdd, Nat.reduceSub, Nat.reduceMul, Nat.reduceDiv, Nat.reduceLeDiff, Int.reduceAdd, Int.reduceSub, Int.reduceMul, Int.reduceDiv, Int.reduceMod, Int.reduceLE, Int.reduceLT, Int.reduceNeg, Int.reduceEq, Int.cast_ofNat_Int, Int.natCast_zero, List.contains_cons, List.contains_nil, Bool.or_false, Bool.or_true, Bool.true_or, reduceCtorEq, or_false, or_true, false_or, true_or, and_false, false_and, ne_eq, List.take_zero, List.take_succ_cons, List.take_nil, List.drop_zero, List.drop_succ_cons, List.drop_nil, decide_true, decide_false, c_gfp_Own, c_gfp_Words]
  obtain ⟨n, hn⟩ : ∃ n, xs.length + ys.length = n := ⟨_, rfl⟩
  have hn' : ((xs.length : Int) + ys.length).toNat = n := by omega
  rw [hn']
  refine ⟨by omega, by omega, ?_⟩
  refine ⟨Nat, fun i => ⟨[.sl (els (V.n .u64) xs), .sl (els (V.n .u64) ys), .u, .u, .u, .row 17 n n, .u, .u, .u, .u, .u, .u, .u, .u, .u, .u, .u, .u, .sl (els (V.n .u64) xs), .z xs.length, .z i, .u, .u, .u, .u, .u, .u, .u, .u, .u, .u, .u, .u, .u, .u, .u, .u, .u, .u, .u, .u, .u, .u, .u, .u, .u, .u, .u, .u, .u, .u, .u, .u, .u, .u, .u, .u, .u, .u, .u, .u, .u, .u], [(17, ⟨1, false, els (V.n .u64) (wds n (cm (pv (xs.take i)) (pv ys))), false⟩)], om⟩, fun i => i ≤ xs.length, fun i => xs.length - i, ⟨0, by omega, ?_⟩, ?_⟩
  · simp only [go_sem, Nat.reduceEqDiff, Nat.reduceBEq, Int.reduceToNat, Nat.reducePow, Nat.reduceMod, Nat.reduceAdd, Nat.reduceSub, Nat.reduceMul, Nat.reduceDiv, Nat.reduceLeDiff, Int.reduceAdd, Int.reduceSub, Int.reduceMul, Int.reduceDiv, Int.reduceMod, Int.reduceLE, Int.reduceLT, Int.reduceNeg, Int.reduceEq, Int.cast_ofNat_Int, Int.natCast_zero, List.contains_cons, List.contains_nil, Bool.or_false, Bool.or_true, Bool.true_or, reduceCtorEq, or_false, or_true, false_or, true_or, and_false, false_and, ne_eq, List.take_zero, List.take_succ_cons, List.take_nil, List.drop_zero, List.drop_succ_cons, List.drop_nil, decide_true, decide_false, c_gfp_Own, c_gfp_Words, wds_zero, List.take_zero, cm_zero_left]
  · intro i hi
    simp only [go_sem, Nat.reduceEqDiff, Nat.reduceBEq, Int.reduceToNat, Nat.reducePow, Nat.reduceMod, Nat.reduceAdd, Nat.reduceSub, Nat.reduceMul, Nat.reduceDiv, Nat.reduceLeDiff, Int.reduceAdd, Int.reduceSub, Int.reduceMul, Int.reduceDiv, Int.reduceMod, Int.reduceLE, Int.reduceLT, Int.reduceNeg, Int.reduceEq, Int.cast_ofNat_Int, Int.natCast_zero, List.contains_cons, List.contains_nil, Bool.or_false, Bool.or_true, Bool.true_or, reduceCtorEq, or_false, or_true, false_or, true_or, and_false, false_and, ne_eq, List.take_zero, List.take_succ_cons, List.take_nil, List.drop_zero, List.drop_succ_cons, List.drop_nil, decide_true, decide_false, c_gfp_Own, c_gfp_Words]
    refine ⟨fun hlt => ⟨⟨by omega, by omega⟩, ?_⟩, fun hge => ?_⟩
    · have hxi : xs.getD i 0 < 18446744073709551616 := by rw [getD_pv hx]; exact wdAt_lt _ _
      obtain ⟨x, hxx⟩ : ∃ x, xs.getD i 0 = x := ⟨_, rfl⟩
      rw [hxx]
      rw [hxx] at hxi
      obtain ⟨M, hM⟩ : ∃ M, cm (pv (xs.take i)) (pv ys) = M := ⟨_, rfl⟩
      have hM1 : cm (pv (xs.take (i + 1))) (pv ys) = M ^^^ (cm x (pv ys)) <<< (64 * i) := by
        rw [pv_take_succ hx (by omega), cm_xor_left, hM, hxx, cm_shl_left]
      rw [hM]
      refine ⟨Nat, fun k => ⟨[.sl (els (V.n .u64) xs), .sl (els (V.n .u64) ys), .u, .u, .u, .row 17 n n, .z i, .n .u64 x, .u, .u, .u, .u, .u, .u, .u, .u, .u, .u, .sl (els (V.n .u64) xs), .z xs.length, .z i, .u, .u, .u, .u, .sl (els (V.n .u64) ys), .z ys.length, .z k, .u, .u, .u, .u, .u, .u, .u, .u, .u, .u, .u, .u, .u, .u, .u, .u, .u, .u, .u, .u, .u, .u, .u, .u, .u, .u, .u, .u, .u, .u, .u, .u, .u, .u, .u], [(17, ⟨1, false, els (V.n .u64) (wds n (M ^^^ (cm x (pv (ys.take k))) <<< (64 * i))), false⟩)], om⟩, fun k => k ≤ ys.length, fun k => ys.length - k, ⟨0, by omega, ?_⟩, ?_⟩
      · simp only [go_sem, Nat.reduceEqDiff, Nat.reduceBEq, Int.reduceToNat, Nat.reducePow, Nat.reduceMod, Nat.reduceAdd, Nat.reduceSub, Nat.reduceMul, Nat.reduceDiv, Nat.reduceLeDiff, Int.reduceAdd, Int.reduceSub, Int.reduceMul, Int.reduceDiv, Int.reduceMod, Int.reduceLE, Int.reduceLT, Int.reduceNeg, Int.reduceEq, Int.cast_ofNat_Int, Int.natCast_zero, List.contains_cons, List.contains_nil, Bool.or_false, Bool.or_true, Bool.true_or, reduceCtorEq, or_false, or_true, false_or, true_or, and_false, false_and, ne_eq, List.take_zero, List.take_succ_cons, List.take_nil, List.drop_zero, List.drop_succ_cons, List.drop_nil, decide_true, decide_false, c_gfp_Own, c_gfp_Words, List.take_zero, cm_zero_right, Nat.zero_shiftLeft, Nat.xor_zero]
      · intro k hk
        simp only [go_sem, Nat.reduceEqDiff, Nat.reduceBEq, Int.reduceToNat, Nat.reducePow, Nat.reduceMod, Nat.reduceAdd, Nat.reduceSub, Nat.reduceMul, Nat.reduceDiv, Nat.reduceLeDiff, Int.reduceAdd, Int.reduceSub, Int.reduceMul, Int.reduceDiv, Int.reduceMod, Int.reduceLE, Int.reduceLT, Int.reduceNeg, Int.reduceEq, Int.cast_ofNat_Int, Int.natCast_zero, List.contains_cons, List.contains_nil, Bool.or_false, Bool.or_true, Bool.true_or, reduceCtorEq, or_false, or_true, false_or, true_or, and_false, false_and, ne_eq, List.take_zero, List.take_succ_cons, List.take_nil, List.drop_zero, List.drop_succ_cons, List.drop_nil, decide_true, decide_false, c_gfp_Own, c_gfp_Words]
        have e1 : ((i : Int) + k).toNat = i + k := by omega
        have e2 : ((i : Int) + k + 1).toNat = i + k + 1 := by omega
        rw [e1, e2]
        refine ⟨fun hlt => ⟨by omega, fun h0 => ⟨by omega, i + 1, by omega, ⟨by omega, ?_⟩, by omega⟩, fun h0 _ => ?_⟩, fun hge => ⟨by omega, i + 1, by omega, ⟨by omega, ?_⟩, by omega⟩⟩
        · rw [hM1, h0, cm_zero_left, cm_zero_left]
        · have hlen : (wds n (M ^^^ cm x (pv (ys.take k)) <<< (64 * i))).length = n := wds_len _ _
          rw [wds_upd (by omega) (wdAt_lt _ _), wds_upd (by omega) (wdAt_lt _ _), wds_len]
          refine ⟨by omega, by omega, by omega, by omega, by omega, by omega, by omega, by omega, by omega, by omega, by omega, by omega, k + 1, by omega, ⟨by omega, ?_⟩, by omega⟩
          have hyk : ys.getD k 0 < 18446744073709551616 := by rw [getD_pv hy]; exact wdAt_lt _ _
          rw [pv_take_succ hy (by omega), cm_xor_right, shl_xor, cm_shl_right]
          obtain ⟨y, hyy⟩ : ∃ y, ys.getD k 0 = y := ⟨_, rfl⟩
          rw [hyy] at hyk ⊢
          have hx2 : bl x ≤ 64 := bl_lt.2 hxi
          have hy2 : bl y ≤ 64 := bl_lt.2 hyk
          have := two_words (n := cm x y) (by have := bl_cm_le x y; omega)
          conv => rhs; rw [this]
          congr 1
          rw [shl_xor, shl_xor, ← Nat.shiftLeft_add, ← Nat.shiftLeft_add, ← Nat.shiftLeft_add, show 64 * k + 64 * i = 64 * (i + k) by omega, show 64 + 64 * (i + k) = 64 * (i + k + 1) by omega]
          ac_rfl
        · obtain rfl : k = ys.length := by omega
          rw [hM1, List.take_length]
    · obtain rfl : i = xs.length := by omega
      rw [List.take_length, pv_wds]
      · exact ⟨by omega, fun _ => rfl⟩
      · have := bl_cm_le (pv xs) (pv ys); have := bl_pv hx; have := bl_pv hy; omega

def c_gfp_Square : Cn := fn1 tU (fun xs => xs.length ≤ 4294967296) fun xs => vP (cm (pv xs) (pv xs))
noncomputable def cx_gfp_Square : Cx := { T := T, E := E, cs := [(61, c_gfp_Own), (63, c_gfp_Words)], sch := [], ob := [], qs := [61, 63] }
@[go_sem] theorem cx_gfp_Square_md : cx_gfp_Square.md = 0 := rfl
@[go_sem] theorem cx_gfp_Square_T : cx_gfp_Square.T = T := rfl
@[go_sem] theorem cx_gfp_Square_E : cx_gfp_Square.E = E := rfl
@[go_sem] theorem cx_gfp_Square_cs : cx_gfp_Square.cs = [(61, c_gfp_Own), (63, c_gfp_Words)] := rfl
@[go_sem] theorem cx_gfp_Square_ob (d : Nat) : (cx_gfp_Square.ob).contains d = false := rfl
theorem cok_gfp_Square : COk Try.prog (cx_gfp_Square) := cok_of rfl (.cons ok_gfp_Own (.cons ok_gfp_Words (.nil))) (.cons (fun _ => fn1_quiet) (.cons (fun _ => fn2_quiet) (.nil))) (.nil)
theorem ok_gfp_Square : Ok Try.prog 83 c_gfp_Square := by
  refine ok_fn1 cok_gfp_Square mixed Try.func83 rfl (by kernel_rfl) (by kernel_rfl) rfl ?_
  intro xs om hw hl
  have hx := (wf_u hw).2
  simp only [go_sem, Try.f83, Nat.reduceEqDiff, Nat.reduceBEq, Int.reduceToNat, Nat.reducePow, Nat.reduceMod, Nat.reduceAdd, Nat.reduceSub, Nat.reduceMul, Nat.reduceDiv, Nat.reduceLeDiff, Int.reduceAdd, Int.reduceSub, Int.reduceMul, Int.reduceDiv, Int.reduceMod, Int.reduceLE, Int.reduceLT, Int.reduceNeg, Int.reduceEq, Int.cast_ofNat_Int, Int.natCast_zero, List.contains_cons, List.contains_nil, Bool.or_false, Bool.or_true, Bool.true_or, reduceCtorEq, or_false, or_true, false_or, true_or, and_false, false_and, ne_eq, List.take_zero, List.take_succ_cons, List.take_nil, List.drop_zero, List.drop_succ_cons, List.drop_nil, decide_true, decide_false, c_gfp_Own, c_gfp_Words]
  obtain ⟨n, hn⟩ : ∃ n, 2 * xs.length = n := ⟨_, rfl⟩
  have hn' : (2 * (xs.length : Int)).toNat = n := by omega
  rw [hn']
  refine ⟨by omega, by omega, ?_⟩
  refine ⟨Nat, fun i => ⟨[.sl (els (V.n .u64) xs), .u, .u, .row 9 n n, .u, .u, .u, .u, .u, .u, .sl (els (V.n .u64) xs), .z xs.length, .z i, .u, .u, .u, .u, .u, .u, .u, .u, .u, .u, .u, .u, .u, .u, .u, .u, .u, .u, .u, .u, .u, .u], [(9, ⟨1, false, els (V.n .u64) (wds n (cm (pv (xs.take i)) (pv (xs.take i)))), false⟩)], om⟩, fun i => i ≤ xs.length, fun i => xs.length - i, ⟨0, by omega, ?_⟩, ?_⟩
  · simp only [go_sem, Nat.reduceEqDiff, Nat.reduceBEq, Int.reduceToNat, Nat.reducePow, Nat.reduceMod, Nat.reduceAdd, Nat.reduceSub, Nat.reduceMul, Nat.reduceDiv, Nat.reduceLeDiff, Int.reduceAdd, Int.reduceSub, Int.reduceMul, Int.reduceDiv, Int.reduceMod, Int.reduceLE, Int.reduceLT, Int.reduceNeg, Int.reduceEq, Int.cast_ofNat_Int, Int.natCast_zero, List.contains_cons, List.contains_nil, Bool.or_false, Bool.or_true, Bool.true_or, reduceCtorEq, or_false, or_true, false_or, true_or, and_false, false_and, ne_eq, List.take_zero, List.take_succ_cons, List.take_nil, List.drop_zero, List.drop_succ_cons, List.drop_nil, decide_true, decide_false, c_gfp_Own, c_gfp_Words, wds_zero, List.take_zero, cm_zero_left]
  · intro i hi
    simp only [go_sem, Nat.reduceEqDiff, Nat.reduceBEq, Int.reduceToNat, Nat.reducePow, Nat.reduceMod, Nat.reduceAdd, Nat.reduceSub, Nat.reduceMul, Nat.reduceDiv, Nat.reduceLeDiff, Int.reduceAdd, Int.reduceSub, Int.reduceMul, Int.reduceDiv, Int.reduceMod, Int.reduceLE, Int.reduceLT, Int.reduceNeg, Int.reduceEq, Int.cast_ofNat_Int, Int.natCast_zero, List.contains_cons, List.contains_nil, Bool.or_false, Bool.or_true, Bool.true_or, reduceCtorEq, or_false, or_true, false_or, true_or, and_false, false_and, ne_eq, List.take_zero, List.take_succ_cons, List.take_nil, List.drop_zero, List.drop_succ_cons, List.drop_nil, decide_true, decide_false, c_gfp_Own, c_gfp_Words]
    have e1 : (2 * (i : Int) + 1).toNat = 2 * i + 1 := by omega
    have e2 : (2 * (i : Int)).toNat = 2 * i := by omega
    rw [e1, e2]
    refine ⟨fun h => ⟨by omega, by omega, by omega, by omega, fun _ => ⟨by omega, by omega, ⟨by simp [wds_len], by omega⟩, ⟨by simp [wds_len], by omega⟩, by omega, i + 1, by omega, ⟨by omega, ?_⟩, by omega⟩⟩, fun h => ?_⟩
    · have hxi : xs.getD i 0 < 18446744073709551616 := by rw [getD_pv hx]; exact wdAt_lt _ _
      obtain ⟨x, hxx⟩ : ∃ x, xs.getD i 0 = x := ⟨_, rfl⟩
      obtain ⟨A, hA⟩ : ∃ A, pv (xs.take i) = A := ⟨_, rfl⟩
      have hA1 : bl A ≤ 64 * i := by rw [← hA]; have := bl_pv (take_lt hx i); simp at this; omega
      have hAA : bl (cm A A) ≤ 128 * i := by have := bl_cm_le A A; omega
      have z : ∀ j, 2 * i ≤ j → wdAt (cm A A) j = 0 := fun j hj => by
        unfold wdAt
        rw [Nat.div_eq_of_lt]
        exact bl_lt.1 (by omega)
      rw [pv_take_succ hx (by omega), hA, hxx, cm_sq_xor, cm_shl_left, cm_shl_right, ← Nat.shiftLeft_add]
      rw [hxx] at hxi
      have hxx2 : bl x ≤ 64 := bl_lt.2 hxi
      have := two_words (n := cm x x) (by have := bl_cm_le x x; omega)
      rw [show (cm x x) <<< (64 * i + 64 * i) = (wdAt (cm x x) 0) <<< (64 * (2 * i)) ^^^ (wdAt (cm x x) 1) <<< (64 * (2 * i + 1)) by
        conv => lhs; rw [this]
        rw [shl_xor, ← Nat.shiftLeft_add, show 64 + (64 * i + 64 * i) = 64 * (2 * i + 1) by omega, show 64 * i + 64 * i = 64 * (2 * i) by omega]]
      have s1 := wds_set n (cm A A) (2 * i + 1) (wdAt (cm x x) 1) (by omega) (wdAt_lt _ _)
      rw [z _ (by omega), Nat.zero_xor] at s1
      rw [s1]
      have s2 := wds_set n (cm A A ^^^ wdAt (cm x x) 1 <<< (64 * (2 * i + 1))) (2 * i) (wdAt (cm x x) 0) (by omega) (wdAt_lt _ _)
      rw [wdAt_xor, z _ (by omega), wdAt_shl_words _ _ _ (wdAt_lt _ _), if_neg (by omega), Nat.xor_self, Nat.zero_xor] at s2
      rw [s2]
      congr 1; ac_rfl
    · obtain rfl : i = xs.length := by omega
      rw [List.take_length, pv_wds]
      · exact ⟨by omega, fun _ => rfl⟩
      · have := bl_cm_le (pv xs) (pv xs); have := bl_pv hx; omega

def upP (m : Nat) (n : Int) : Nat := if 0 ≤ n ∧ n ≤ 2048 then m <<< n.toNat else 0
def c_gfp_Up : Cn := fn2 tU tZ (fun xs _ => xs.length ≤ 4294967296) fun xs n => vP (upP (pv xs) n)
noncomputable def cx_gfp_Up : Cx := { T := T, E := E, cs := [(61, c_gfp_Own), (79, c_gfp_Poly_at)], sch := [(9, true, .take 0 (.take 1 (.take 2 (.take 3 (.take 5 (.take 7 (.take 8 (.take 9 (.take 11 (.take 12 (.alt 4 (.take 6 (.alt 10 (.take 13 (.take 14 (.take 15 (.alt 16 (.done) .no)))) .no)) .no)))))))))))], ob := [], qs := [61, 79] }
@[go_sem] theorem cx_gfp_Up_md : cx_gfp_Up.md = 0 := rfl
@[go_sem] theorem cx_gfp_Up_T : cx_gfp_Up.T = T := rfl
@[go_sem] theorem cx_gfp_Up_E : cx_gfp_Up.E = E := rfl
@[go_sem] theorem cx_gfp_Up_cs : cx_gfp_Up.cs = [(61, c_gfp_Own), (79, c_gfp_Poly_at)] := rfl
@[go_sem] theorem cx_gfp_Up_sch : cx_gfp_Up.sch = [(9, true, .take 0 (.take 1 (.take 2 (.take 3 (.take 5 (.take 7 (.take 8 (.take 9 (.take 11 (.take 12 (.alt 4 (.take 6 (.alt 10 (.take 13 (.take 14 (.take 15 (.alt 16 (.done) .no)))) .no)) .no)))))))))))] := rfl
@[go_sem] theorem cx_gfp_Up_ob (d : Nat) : (cx_gfp_Up.ob).contains d = false := rfl
theorem cok_gfp_Up : COk Try.prog (cx_gfp_Up) := cok_of rfl (.cons ok_gfp_Own (.cons ok_gfp_Poly_at (.nil))) (.cons (fun _ => fn1_quiet) (.cons (fun _ => fn2_quiet) (.nil))) (.nil)
theorem ok_gfp_Up : Ok Try.prog 65 c_gfp_Up := by
  refine ok_fn2 cok_gfp_Up mixed Try.func65 rfl (by kernel_rfl) (by kernel_rfl) rfl ?_
  intro xs n om hw hl
  have hx := (wf_u ⟨hw.1, trivial⟩).2
  simp only [go_sem, Try.f65, Nat.reduceEqDiff, Nat.reduceBEq, Int.reduceToNat, Nat.reducePow, Nat.reduceMod, Nat.reduceAdd, Nat.reduceSub, Nat.reduceMul, Nat.reduceDiv, Nat.reduceLeDiff, Int.reduceAdd, Int.reduceSub, Int.reduceMul, Int.reduceDiv, Int.reduceMod, Int.reduceLE, Int.reduceLT, Int.reduceNeg, Int.reduceEq, Int.cast_ofNat_Int, Int.natCast_zero, List.contains_cons, List.contains_nil, Bool.or_false, Bool.or_true, Bool.true_or, reduceCtorEq, or_false, or_true, false_or, true_or, and_false, false_and, ne_eq, List.take_zero, List.take_succ_cons, List.take_nil, List.drop_zero, List.drop_succ_cons, List.drop_nil, decide_true, decide_false, c_gfp_Own, c_gfp_Poly_at]
  refine ⟨fun h => by unfold upP; rw [if_neg (by omega)], fun h0 => ⟨fun h => by unfold upP; rw [if_neg (by omega)], fun h1 => ?_⟩⟩
  obtain ⟨s, rfl⟩ := Int.eq_ofNat_of_zero_le (show 0 ≤ n by omega)
  obtain ⟨n, hn⟩ : ∃ n, xs.length + s / 64 + 1 = n := ⟨_, rfl⟩
  have hn' : ((xs.length : Int) + (s : Int) / 64 + 1).toNat = n := by omega
  have hu : upP (pv xs) s = pv xs <<< s := by unfold upP; rw [if_pos (by omega)]; rfl
  have hb : bl (pv xs <<< s) ≤ 64 * n := by
    by_cases h : pv xs = 0
    · rw [h]; simp [bl_zero]
    · rw [bl_shl h]; have := bl_pv hx; omega
  rw [hn', hu]
  refine ⟨by omega, by omega, by omega, by omega, by omega, ?_⟩
  refine ⟨Nat, fun k => ⟨[.sl (els (V.n .u64) xs), .z s, .u, .u, .u, .row 22 n n, V.fn (Fn.func 79) [V.sl (els (V.n IntKind.u64) xs)] [], .z ((s : Int) % 64), .u, .u, .u, .u, .u, .u, .u, .u, .u, .u, .u, .u, .u, .u, .u, .u, .u, .u, .u, .u, .z n, .z k, .u, .u, .u, .u, .u, .u, .u, .u, .u, .u, .u, .u, .u, .u, .u, .u, .u, .u, .u, .u, .u, .u, .u, .u, .u], [(22, ⟨1, false, els (V.n .u64) (filled n k (wdAt (pv xs <<< s)) 0), false⟩)], om⟩, fun i => i ≤ n, fun i => n - i, ⟨0, by omega, ?_⟩, ?_⟩
  · simp only [go_sem, Nat.reduceEqDiff, Nat.reduceBEq, Int.reduceToNat, Nat.reducePow, Nat.reduceMod, Nat.reduceAdd, Nat.reduceSub, Nat.reduceMul, Nat.reduceDiv, Nat.reduceLeDiff, Int.reduceAdd, Int.reduceSub, Int.reduceMul, Int.reduceDiv, Int.reduceMod, Int.reduceLE, Int.reduceLT, Int.reduceNeg, Int.reduceEq, Int.cast_ofNat_Int, Int.natCast_zero, List.contains_cons, List.contains_nil, Bool.or_false, Bool.or_true, Bool.true_or, reduceCtorEq, or_false, or_true, false_or, true_or, and_false, false_and, ne_eq, List.take_zero, List.take_succ_cons, List.take_nil, List.drop_zero, List.drop_succ_cons, List.drop_nil, decide_true, decide_false, c_gfp_Own, c_gfp_Poly_at, filled_zero]
  · intro k hk
    simp only [go_sem, Nat.reduceEqDiff, Nat.reduceBEq, Int.reduceToNat, Nat.reducePow, Nat.reduceMod, Nat.reduceAdd, Nat.reduceSub, Nat.reduceMul, Nat.reduceDiv, Nat.reduceLeDiff, Int.reduceAdd, Int.reduceSub, Int.reduceMul, Int.reduceDiv, Int.reduceMod, Int.reduceLE, Int.reduceLT, Int.reduceNeg, Int.reduceEq, Int.cast_ofNat_Int, Int.natCast_zero, List.contains_cons, List.contains_nil, Bool.or_false, Bool.or_true, Bool.true_or, reduceCtorEq, or_false, or_true, false_or, true_or, and_false, false_and, ne_eq, List.take_zero, List.take_succ_cons, List.take_nil, List.drop_zero, List.drop_succ_cons, List.drop_nil, decide_true, decide_false, c_gfp_Own, c_gfp_Poly_at]
    refine ⟨fun h => ⟨by omega, by omega, by omega, by omega, fun _ => ⟨by omega, fun _ => ⟨by omega, by omega, by omega, by omega, k + 1, by omega, ⟨by omega, ?_⟩, by omega⟩⟩⟩, fun h => ⟨by omega, fun _ => pv_filled (by omega) hb⟩⟩
    rw [← filled_set, wdAt_shl]
    congr 1
    rw [show ((s : Int) % 64).toNat = s % 64 by omega, show (64 - (s : Int) % 64).toNat = 64 - s % 64 by omega]
    congr 1
    · congr 2
      unfold atU
      by_cases h2 : s / 64 ≤ k
      · rw [if_pos h2, if_pos (by omega)]; congr 1; omega
      · rw [if_neg h2, if_neg (by omega)]
    · congr 1
      unfold atU
      by_cases h2 : s / 64 + 1 ≤ k
      · rw [if_pos h2, if_pos (by omega)]; congr 1; omega
      · rw [if_neg h2, if_neg (by omega)]

def c_gfp_X : Cn := fn1 tZ (fun _ => True) fun n => vP (upP 1 n)
noncomputable def cx_gfp_X : Cx := { T := T, E := E, cs := [(65, c_gfp_Up)], sch := [], ob := [], qs := [65] }
@[go_sem] theorem cx_gfp_X_md : cx_gfp_X.md = 0 := rfl
@[go_sem] theorem cx_gfp_X_T : cx_gfp_X.T = T := rfl
@[go_sem] theorem cx_gfp_X_E : cx_gfp_X.E = E := rfl
@[go_sem] theorem cx_gfp_X_cs : cx_gfp_X.cs = [(65, c_gfp_Up)] := rfl
@[go_sem] theorem cx_gfp_X_ob (d : Nat) : (cx_gfp_X.ob).contains d = false := rfl
theorem cok_gfp_X : COk Try.prog (cx_gfp_X) := cok_of rfl (.cons ok_gfp_Up (.nil)) (.cons (fun _ => fn2_quiet) (.nil)) (.nil)
theorem ok_gfp_X : Ok Try.prog 35 c_gfp_X := by
  refine ok_fn1 cok_gfp_X mixed Try.func35 rfl (by kernel_rfl) (by kernel_rfl) rfl ?_
  intro n om hw _
  simp only [go_sem, Try.f35, Nat.reduceEqDiff, Nat.reduceBEq, Int.reduceToNat, Nat.reducePow, Nat.reduceMod, Nat.reduceAdd, Nat.reduceSub, Nat.reduceMul, Nat.reduceDiv, Nat.reduceLeDiff, Int.reduceAdd, Int.reduceSub, Int.reduceMul, Int.reduceDiv, Int.reduceMod, Int.reduceLE, Int.reduceLT, Int.reduceNeg, Int.reduceEq, Int.cast_ofNat_Int, Int.natCast_zero, List.contains_cons, List.contains_nil, Bool.or_false, Bool.or_true, Bool.true_or, reduceCtorEq, or_false, or_true, false_or, true_or, and_false, false_and, ne_eq, List.take_zero, List.take_succ_cons, List.take_nil, List.drop_zero, List.drop_succ_cons, List.drop_nil, decide_true, decide_false, c_gfp_Up]
  trivial
end Go.Proofs.Ytaojebdjkpdcdaa.I
