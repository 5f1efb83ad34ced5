/- The references of layer 3: Div, Mod, Gcd, Inverse. -/
import Derived.Test.YtaojebdjkpdcdaaRef2
import Derived.Test.YtaojebdjkpdcdaaGfdiv2
namespace Go.Proofs.Ytaojebdjkpdcdaa.I
open Go
set_option maxRecDepth 10000
set_option linter.unusedSimpArgs false
set_option linter.unusedVariables false

theorem pb_zero : pb 0 = [] := rfl
/-- Parts in their own form. -/
noncomputable def tQ : Ty Nat := Ty.by vB fun a b h => by
  rw [vB_eq, vB_eq] at h; injection h with h
  rwa [els_inj, pb_inj'] at h
@[go_sem] theorem tQ_enc (n : Nat) : tQ.enc n = .sl (els V.z (pb n)) := rfl
@[go_sem] theorem tQ_dec (n : Nat) : tQ.dec (.sl (els V.z (pb n))) = some n := tQ.h1 n
@[go_sem] theorem tQ_dec0 : tQ.dec (.sl []) = some 0 := tQ.h1 0
@[go_sem] theorem tQ_dec1 : tQ.dec (.sl [.z 1]) = some 1 := tQ.h1 1
@[go_sem] theorem tQ_dec2 : tQ.dec (.sl [.z 0, .z 1]) = some 2 := tQ.h1 2
theorem pb_lit1 : pb 1 = [1] := rfl

theorem bits_put1 {n m i : Nat} (hi : i < n) (h : m.testBit i = false) : (bitsL n m).set i 1 = bitsL n (m ^^^ 2 ^ i) := by
  have e : bitI (m ^^^ 2 ^ i) i = 1 := bitI_eq_one.2 (by rw [Nat.testBit_xor, Nat.testBit_two_pow_self, h]; rfl)
  rw [← e]
  refine bits_set _ _ _ _ hi fun k hk => ?_
  rw [Nat.testBit_xor, Nat.testBit_two_pow]
  have : ¬ i = k := fun h => hk h.symm
  simp [this]

noncomputable def c_ref03_Div : Cn := fn2 tQ tQ (fun a b => b ≠ 0 ∧ bl a ≤ 1000000 ∧ bl b ≤ 1000000) fun a b => .tup [vB (qd a b), vB (rm a b)]
noncomputable def cx_ref03_Div : Cx := { T := T, E := E, cs := [(57, c_ref02_Trim)], sch := [(15, false, .take 0 (.take 1 (.take 2 (.take 3 (.take 4 (.take 5 (.take 6 (.take 7 (.take 8 (.take 9 (.take 10 (.take 11 (.take 12 (.take 13 (.take 14 (.take 15 (.take 16 (.alt 17 (.done) .no))))))))))))))))))], ob := [], qs := [57] }
@[go_sem] theorem cx_ref03_Div_md : cx_ref03_Div.md = 0 := rfl
@[go_sem] theorem cx_ref03_Div_T : cx_ref03_Div.T = T := rfl
@[go_sem] theorem cx_ref03_Div_E : cx_ref03_Div.E = E := rfl
@[go_sem] theorem cx_ref03_Div_cs : cx_ref03_Div.cs = [(57, c_ref02_Trim)] := rfl
@[go_sem] theorem cx_ref03_Div_sch : cx_ref03_Div.sch = [(15, false, .take 0 (.take 1 (.take 2 (.take 3 (.take 4 (.take 5 (.take 6 (.take 7 (.take 8 (.take 9 (.take 10 (.take 11 (.take 12 (.take 13 (.take 14 (.take 15 (.take 16 (.alt 17 (.done) .no))))))))))))))))))] := rfl
@[go_sem] theorem cx_ref03_Div_ob (d : Nat) : (cx_ref03_Div.ob).contains d = false := rfl
theorem cok_ref03_Div : COk Try.prog (cx_ref03_Div) := cok_of rfl (.cons ok_ref02_Trim (.nil)) (.cons (fun _ => fn1_quiet) (.nil)) (.nil)
theorem ok_ref03_Div : Ok Try.prog 60 c_ref03_Div := by
  refine ok_fn2 cok_ref03_Div mixed Try.func60 rfl (by kernel_rfl) (by kernel_rfl) rfl ?_
  intro A B om hw ⟨hB, hbA, hbB⟩
  have hB0 := bl_pos.2 hB
  simp only [go_sem, Try.f60, Nat.reduceEqDiff, Nat.reduceBEq, Int.reduceToNat, Nat.reducePow, Nat.reduceMod, Nat.reduceAdd, Nat.reduceSub, Nat.reduceMul, Nat.reduceDiv, Nat.reduceLeDiff, Int.reduceAdd, Int.reduceSub, Int.reduceMul, Int.reduceDiv, Int.reduceMod, Int.reduceLE, Int.reduceLT, Int.reduceNeg, Int.reduceEq, Int.cast_ofNat_Int, Int.natCast_zero, List.contains_cons, List.contains_nil, Bool.or_false, Bool.or_true, Bool.true_or, reduceCtorEq, or_false, or_true, false_or, true_or, and_false, false_and, ne_eq, List.take_zero, List.take_succ_cons, List.take_nil, List.drop_zero, List.drop_succ_cons, List.drop_nil, decide_true, decide_false, c_ref02_Trim]
  refine ⟨by omega, ?_⟩
  refine ⟨Nat, fun k => ⟨[.sl (els V.z (pb A)), .sl (els V.z (pb B)), .u, .u, .u, .u, .row 13 (bl A) (bl A), .row 23 k k, .z k, .u, .u, .u, .u, .u, .u, .u, .u, .u, .u, .u, .u, .u, .u, .u, .u, .u, .u, .u, .u, .u, .u, .u, .u, .u, .u, .u, .u, .u, .u, .u, .u, .u, .u, .u, .u, .u, .u, .u, .u, .u, .u, .u, .u, .u, .u, .u, .u, .u, .u, .u, .u, .u, .u, .u, .u, .u, .u, .u, .u, .u, .u, .u], [(13, ⟨1, false, els V.z (pb A), false⟩), (23, ⟨1, false, els V.z (bitsL k 0), false⟩)], om⟩, fun k => k ≤ bl A, fun k => bl A - k, ⟨0, by omega, ?_⟩, ?_⟩
  · simp only [go_sem, Nat.reduceEqDiff, Nat.reduceBEq, Int.reduceToNat, Nat.reducePow, Nat.reduceMod, Nat.reduceAdd, Nat.reduceSub, Nat.reduceMul, Nat.reduceDiv, Nat.reduceLeDiff, Int.reduceAdd, Int.reduceSub, Int.reduceMul, Int.reduceDiv, Int.reduceMod, Int.reduceLE, Int.reduceLT, Int.reduceNeg, Int.reduceEq, Int.cast_ofNat_Int, Int.natCast_zero, List.contains_cons, List.contains_nil, Bool.or_false, Bool.or_true, Bool.true_or, reduceCtorEq, or_false, or_true, false_or, true_or, and_false, false_and, ne_eq, List.take_zero, List.take_succ_cons, List.take_nil, List.drop_zero, List.drop_succ_cons, List.drop_nil, decide_true, decide_false, c_ref02_Trim]
    rfl
  · intro k hk
    simp only [go_sem, Nat.reduceEqDiff, Nat.reduceBEq, Int.reduceToNat, Nat.reducePow, Nat.reduceMod, Nat.reduceAdd, Nat.reduceSub, Nat.reduceMul, Nat.reduceDiv, Nat.reduceLeDiff, Int.reduceAdd, Int.reduceSub, Int.reduceMul, Int.reduceDiv, Int.reduceMod, Int.reduceLE, Int.reduceLT, Int.reduceNeg, Int.reduceEq, Int.cast_ofNat_Int, Int.natCast_zero, List.contains_cons, List.contains_nil, Bool.or_false, Bool.or_true, Bool.true_or, reduceCtorEq, or_false, or_true, false_or, true_or, and_false, false_and, ne_eq, List.take_zero, List.take_succ_cons, List.take_nil, List.drop_zero, List.drop_succ_cons, List.drop_nil, decide_true, decide_false, c_ref02_Trim]
    have sn := bits_snoc k 0
    rw [bitI_zero] at sn
    rw [sn]
    refine ⟨fun h => ⟨by omega, by omega, by omega, k + 1, by omega, ⟨⟨rfl, by omega⟩, rfl⟩, by omega⟩, fun h => ⟨by omega, ?_⟩⟩
    obtain rfl : k = bl A := by omega
    clear h sn hk
    refine ⟨Int × Nat × Nat, fun p => ⟨[.sl (els V.z (pb A)), .sl (els V.z (pb B)), .u, .u, .u, .u, .row 13 (bl A) (bl A), .row 23 (bl A) (bl A), .u, .z p.1, .u, .u, .u, .u, .u, .u, .u, .u, .u, .u, .u, .u, .u, .u, .u, .u, .u, .u, .u, .u, .u, .u, .u, .u, .u, .u, .u, .u, .u, .u, .u, .u, .u, .u, .u, .u, .u, .u, .u, .u, .u, .u, .u, .u, .u, .u, .u, .u, .u, .u, .u, .u, .u, .u, .u, .u, .u, .u, .u, .u, .u, .u], [(13, ⟨1, false, els V.z (bitsL (bl A) p.2.2), false⟩), (23, ⟨1, false, els V.z (bitsL (bl A) p.2.1), false⟩)], om⟩,
      fun p => A = cm p.2.1 B ^^^ p.2.2 ∧ (bl p.2.2 : Int) ≤ p.1 + bl B ∧ p.1 + bl B ≤ bl A ∧ bl p.2.1 ≤ bl A ∧ (∀ j : Nat, (j : Int) ≤ p.1 → p.2.1.testBit j = false) ∧ -1000002 ≤ p.1 ∧ bl p.2.2 ≤ bl A, fun p => (p.1 + 1).toNat,
      ⟨((bl A : Int) - bl B, 0, A), ⟨by simp [cm_zero_left], by show (bl A : Int) ≤ bl A - bl B + bl B; omega, by show (bl A : Int) - bl B + bl B ≤ bl A; omega, by show bl 0 ≤ bl A; rw [bl_zero]; omega, fun j _ => by simp, by show _ ≤ (bl A : Int) - bl B; omega, Nat.le_refl _⟩, ?_⟩, ?_⟩
    · simp only [go_sem, Nat.reduceEqDiff, Nat.reduceBEq, Int.reduceToNat, Nat.reducePow, Nat.reduceMod, Nat.reduceAdd, Nat.reduceSub, Nat.reduceMul, Nat.reduceDiv, Nat.reduceLeDiff, Int.reduceAdd, Int.reduceSub, Int.reduceMul, Int.reduceDiv, Int.reduceMod, Int.reduceLE, Int.reduceLT, Int.reduceNeg, Int.reduceEq, Int.cast_ofNat_Int, Int.natCast_zero, List.contains_cons, List.contains_nil, Bool.or_false, Bool.or_true, Bool.true_or, reduceCtorEq, or_false, or_true, false_or, true_or, and_false, false_and, ne_eq, List.take_zero, List.take_succ_cons, List.take_nil, List.drop_zero, List.drop_succ_cons, List.drop_nil, decide_true, decide_false, c_ref02_Trim]
      rfl
    · rintro ⟨i, Q, R⟩ ⟨h1, h2, h3, h4, h5, h6, h7⟩
      simp only at h1 h2 h3 h4 h5 h6 h7
      simp only [go_sem, Nat.reduceEqDiff, Nat.reduceBEq, Int.reduceToNat, Nat.reducePow, Nat.reduceMod, Nat.reduceAdd, Nat.reduceSub, Nat.reduceMul, Nat.reduceDiv, Nat.reduceLeDiff, Int.reduceAdd, Int.reduceSub, Int.reduceMul, Int.reduceDiv, Int.reduceMod, Int.reduceLE, Int.reduceLT, Int.reduceNeg, Int.reduceEq, Int.cast_ofNat_Int, Int.natCast_zero, List.contains_cons, List.contains_nil, Bool.or_false, Bool.or_true, Bool.true_or, reduceCtorEq, or_false, or_true, false_or, true_or, and_false, false_and, ne_eq, List.take_zero, List.take_succ_cons, List.take_nil, List.drop_zero, List.drop_succ_cons, List.drop_nil, decide_true, decide_false, c_ref02_Trim]
      refine ⟨fun h0 => ?_, fun h0 => ?_⟩
      · obtain ⟨n, rfl⟩ := Int.eq_ofNat_of_zero_le h0
        have e1 : ((n : Int) + bl B - 1).toNat = n + bl B - 1 := by omega
        rw [e1, bits_getD _ _ _ (by omega)]
        refine ⟨by omega, by omega, by omega, by omega, fun hz => ⟨by omega, ((n : Int) - 1, Q, R), ⟨h1, ?_, by show (n : Int) - 1 + bl B ≤ bl A; omega, h4, fun j hj => h5 j (by have : (j : Int) ≤ n - 1 := hj; omega), by show _ ≤ (n : Int) - 1; omega, h7⟩, ⟨rfl, rfl, rfl⟩, by show ((n : Int) - 1 + 1).toNat < ((n : Int) + 1).toNat; omega⟩, fun hz => ?_⟩
        · have hR : bl R ≤ n + bl B - 1 := by
            rw [bitI_eq_zero] at hz
            rcases Nat.lt_or_ge (n + bl B - 1) (bl R) with g | g
            · have g2 : bl R - 1 = n + bl B - 1 := by omega
              have := bl_top (x := R) (bl_pos.1 (by omega))
              rw [g2, hz] at this; cases this
            · exact g
          show (bl R : Int) ≤ (n : Int) - 1 + bl B
          omega
        · have hR : R.testBit (n + bl B - 1) = true := by
            cases e : R.testBit (n + bl B - 1) with
            | true => rfl
            | false => exact absurd (bitI_eq_zero.2 e) hz
          have hRb := bl_of_testBit hR
          have hQn : Q.testBit n = false := h5 n (Int.le_refl _)
          rw [Int.toNat_natCast, bits_put1 (by omega) hQn]
          refine ⟨by omega, by omega, ?_⟩
          refine ⟨Nat, fun k => ⟨[.sl (els V.z (pb A)), .sl (els V.z (pb B)), .u, .u, .u, .u, .row 13 (bl A) (bl A), .row 23 (bl A) (bl A), .u, .z n, .z k, .u, .u, .u, .u, .u, .u, .u, .u, .u, .u, .u, .u, .u, .u, .u, .u, .u, .u, .u, .u, .u, .u, .u, .u, .u, .u, .u, .u, .u, .u, .u, .u, .u, .u, .u, .u, .u, .u, .u, .u, .u, .u, .u, .u, .u, .u, .u, .u, .u, .u, .u, .u, .u, .u, .u, .u, .u, .u, .u, .u, .u], [(13, ⟨1, false, els V.z (bitsL (bl A) (R ^^^ (bv ((pb B).take k)) <<< n)), false⟩), (23, ⟨1, false, els V.z (bitsL (bl A) (Q ^^^ 2 ^ n)), false⟩)], om⟩, fun k => k ≤ bl B, fun k => bl B - k, ⟨0, by omega, ?_⟩, ?_⟩
          · simp only [go_sem, Nat.reduceEqDiff, Nat.reduceBEq, Int.reduceToNat, Nat.reducePow, Nat.reduceMod, Nat.reduceAdd, Nat.reduceSub, Nat.reduceMul, Nat.reduceDiv, Nat.reduceLeDiff, Int.reduceAdd, Int.reduceSub, Int.reduceMul, Int.reduceDiv, Int.reduceMod, Int.reduceLE, Int.reduceLT, Int.reduceNeg, Int.reduceEq, Int.cast_ofNat_Int, Int.natCast_zero, List.contains_cons, List.contains_nil, Bool.or_false, Bool.or_true, Bool.true_or, reduceCtorEq, or_false, or_true, false_or, true_or, and_false, false_and, ne_eq, List.take_zero, List.take_succ_cons, List.take_nil, List.drop_zero, List.drop_succ_cons, List.drop_nil, decide_true, decide_false, c_ref02_Trim, Nat.zero_shiftLeft, Nat.xor_zero]
          · intro k hk
            simp only [go_sem, Nat.reduceEqDiff, Nat.reduceBEq, Int.reduceToNat, Nat.reducePow, Nat.reduceMod, Nat.reduceAdd, Nat.reduceSub, Nat.reduceMul, Nat.reduceDiv, Nat.reduceLeDiff, Int.reduceAdd, Int.reduceSub, Int.reduceMul, Int.reduceDiv, Int.reduceMod, Int.reduceLE, Int.reduceLT, Int.reduceNeg, Int.reduceEq, Int.cast_ofNat_Int, Int.natCast_zero, List.contains_cons, List.contains_nil, Bool.or_false, Bool.or_true, Bool.true_or, reduceCtorEq, or_false, or_true, false_or, true_or, and_false, false_and, ne_eq, List.take_zero, List.take_succ_cons, List.take_nil, List.drop_zero, List.drop_succ_cons, List.drop_nil, decide_true, decide_false, c_ref02_Trim]
            have e2 : ((n : Int) + k).toNat = n + k := by omega
            have hbk : (pb B).getD k 0 = 0 ∨ (pb B).getD k 0 = 1 := by rw [getD_bv (good_pb B)]; exact bitI_01 _ _
            rw [e2]
            refine ⟨fun hlt => ?_, fun hge => ⟨by omega, ((n : Int) - 1, Q ^^^ 2 ^ n, R ^^^ B <<< n), ⟨?_, ?_, by show (n : Int) - 1 + bl B ≤ bl A; omega, ?_, fun j hj => ?_, by show _ ≤ (n : Int) - 1; omega, ?_⟩, ⟨rfl, ?_, rfl⟩, by show ((n : Int) - 1 + 1).toNat < ((n : Int) + 1).toNat; omega⟩⟩
            · have hb : (bitsL (bl A) (R ^^^ bv (List.take k (pb B)) <<< n)).getD (n + k) 0 = 0 ∨ (bitsL (bl A) (R ^^^ bv (List.take k (pb B)) <<< n)).getD (n + k) 0 = 1 := by
                rw [bits_getD _ _ _ (by omega)]; exact bitI_01 _ _
              refine ⟨by omega, by omega, by omega, by omega, by omega, by omega, by omega, by omega, by omega, by omega, k + 1, by omega, ⟨by omega, ?_⟩, by omega⟩
              rw [bits_upd' hbk (by omega), bv_take_succ (by rw [pb_len]; omega), shl_xor, Nat.xor_assoc]
              congr 3
              split
              · rw [Nat.shiftLeft_eq, ← Nat.pow_add, Nat.add_comm]
              · simp
            · show A = cm (Q ^^^ 2 ^ n) B ^^^ (R ^^^ B <<< n)
              rw [cm_xor_left, cm_pow_left, h1]
              rw [show cm Q B ^^^ B <<< n ^^^ (R ^^^ B <<< n) = cm Q B ^^^ R ^^^ (B <<< n ^^^ B <<< n) by ac_rfl, Nat.xor_self, Nat.xor_zero]
            · have := bl_shl hB n
              have := bl_xor_lt (x := R) (y := B <<< n) (by omega) (bl_pos.1 (by omega))
              show (bl (R ^^^ B <<< n) : Int) ≤ (n : Int) - 1 + bl B
              omega
            · have := bl_xor_le Q (2 ^ n)
              have : bl (2 ^ n) = n + 1 := bl_unique (Nat.le_refl _) (Nat.pow_lt_pow_right (by omega) (by omega))
              show bl (Q ^^^ 2 ^ n) ≤ bl A
              omega
            · have hj' : (j : Int) ≤ (n : Int) - 1 := hj
              show (Q ^^^ 2 ^ n).testBit j = false
              rw [Nat.testBit_xor, Nat.testBit_two_pow, h5 j (by omega)]
              have : ¬ n = j := by omega
              simp [this]
            · have := bl_shl hB n
              have := bl_xor_le R (B <<< n)
              show bl (R ^^^ B <<< n) ≤ bl A
              omega
            · rw [List.take_of_length_le (by rw [pb_len]; omega), bv_pb]
      · obtain ⟨e1, e2⟩ := qr_eq h1 (by omega)
        have m1 : Q % 2 ^ bl A = Q := Nat.mod_eq_of_lt (bl_lt.1 h4)
        have m2 : R % 2 ^ bl A = R := Nat.mod_eq_of_lt (bl_lt.1 h7)
        rw [m1, m2, ← e1, ← e2]
        refine ⟨by omega, fun _ => ⟨by omega, fun _ => ⟨rfl, rfl⟩⟩⟩

noncomputable def c_ref03_Mod : Cn := fn2 tQ tQ (fun a b => b ≠ 0 ∧ bl a ≤ 1000000 ∧ bl b ≤ 1000000) fun a b => vB (rm a b)
noncomputable def cx_ref03_Mod : Cx := { T := T, E := E, cs := [(60, c_ref03_Div)], sch := [], ob := [], qs := [60] }
@[go_sem] theorem cx_ref03_Mod_md : cx_ref03_Mod.md = 0 := rfl
@[go_sem] theorem cx_ref03_Mod_T : cx_ref03_Mod.T = T := rfl
@[go_sem] theorem cx_ref03_Mod_E : cx_ref03_Mod.E = E := rfl
@[go_sem] theorem cx_ref03_Mod_cs : cx_ref03_Mod.cs = [(60, c_ref03_Div)] := rfl
@[go_sem] theorem cx_ref03_Mod_ob (d : Nat) : (cx_ref03_Mod.ob).contains d = false := rfl
theorem cok_ref03_Mod : COk Try.prog (cx_ref03_Mod) := cok_of rfl (.cons ok_ref03_Div (.nil)) (.cons (fun _ => fn2_quiet) (.nil)) (.nil)
theorem ok_ref03_Mod : Ok Try.prog 24 c_ref03_Mod := by
  refine ok_fn2 cok_ref03_Mod mixed Try.func24 rfl (by kernel_rfl) (by kernel_rfl) rfl ?_
  intro A B om hw ⟨hB, hbA, hbB⟩
  simp only [go_sem, Try.f24, Nat.reduceEqDiff, Nat.reduceBEq, Int.reduceToNat, Nat.reducePow, Nat.reduceMod, Nat.reduceAdd, Nat.reduceSub, Nat.reduceMul, Nat.reduceDiv, Nat.reduceLeDiff, Int.reduceAdd, Int.reduceSub, Int.reduceMul, Int.reduceDiv, Int.reduceMod, Int.reduceLE, Int.reduceLT, Int.reduceNeg, Int.reduceEq, Int.cast_ofNat_Int, Int.natCast_zero, List.contains_cons, List.contains_nil, Bool.or_false, Bool.or_true, Bool.true_or, reduceCtorEq, or_false, or_true, false_or, true_or, and_false, false_and, ne_eq, List.take_zero, List.take_succ_cons, List.take_nil, List.drop_zero, List.drop_succ_cons, List.drop_nil, decide_true, decide_false, c_ref03_Div]
  repeat' (first | with_reducible refine And.intro ?_ ?_ | with_reducible intro _)
  all_goals first | omega | trivial

noncomputable def c_ref03_Gcd : Cn := fn2 tQ tQ (fun a b => bl a ≤ 1000000 ∧ bl b ≤ 1000000) fun a b => vB (gd a b)
theorem gd_rm (a : Nat) {p : Nat} (hp : p ≠ 0) : gd p (rm a p) = gd a p := by
  have e : rm a p = a ^^^ cm (qd a p) p := by
    have := (qr_spec a hp).1
    rw [Nat.xor_comm] at this; exact xor_eq.1 this.symm
  refine dv_antisymm (dv_gd ?_ (gd_dv_left _ _)) (dv_gd (gd_dv_right _ _) ?_)
  · have h1 := gd_dv_left p (rm a p)
    have h2 := gd_dv_right p (rm a p)
    have := dv_xor h2 (dv_mul h1 (qd a p))
    conv at this => rhs; rw [e]
    rwa [xor_cancel'] at this
  · rw [e]; exact dv_xor (gd_dv_left a p) (dv_mul (gd_dv_right a p) _)

noncomputable def c_ref03_Inverse : Cn := fn2j tQ tQ (fun a p => bl a ≤ 200000 ∧ bl p ≤ 200000) (fun _ p => p = 0) (fun a p => gd a p = 1) (fun _ _ => .tup [vB 0, .z 8]) (fun a p => .tup [vB (iv a p), .z 0]) (fun _ _ => .tup [vB 0, .z 1])
end Go.Proofs.Ytaojebdjkpdcdaa.I
