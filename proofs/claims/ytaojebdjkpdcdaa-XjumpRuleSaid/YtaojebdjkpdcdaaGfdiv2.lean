/- gfdiv: both, Gcd, Inverse. -/
import Derived.Test.YtaojebdjkpdcdaaGfdiv1
import Derived.Test.YtaojebdjkpdcdaaG1
namespace Go.Proofs.Ytaojebdjkpdcdaa.I
open Go
set_option maxRecDepth 10000
set_option linter.unusedSimpArgs false
set_option linter.unusedVariables false

theorem wd_lit1 : wd 1 = [1] := by rw [wd_wds]; rfl
/-- Polynomials in their own form. -/
def tP : Ty Nat where
  enc := vP
  dec := fun v => match tU.dec v with
    | some xs => if wd (pv xs) = xs then some (pv xs) else none
    | none => none
  h1 := fun n => by
    show (match tU.dec (tU.enc (wd n)) with | some xs => if wd (pv xs) = xs then some (pv xs) else none | none => none) = _
    rw [tU.h1]; simp only [pv_wd, if_true]
  h2 := fun v n h => by
    split at h
    · rename_i xs hx
      split at h
      · rename_i he
        injection h with h; subst h
        rw [tU.h2 _ _ hx]
        show _ = V.sl (els (V.n .u64) (wd (pv xs)))
        rw [he]; rfl
      · cases h
    · cases h
@[go_sem] theorem tP_enc (n : Nat) : tP.enc n = .sl (els (V.n .u64) (wd n)) := rfl
@[go_sem] theorem tP_dec (n : Nat) : tP.dec (.sl (els (V.n .u64) (wd n))) = some n := tP.h1 n
@[go_sem] theorem tP_dec0 : tP.dec (.sl []) = some 0 := by
  have := tP.h1 0; rw [tP_enc, wd_zero] at this; exact this
@[go_sem] theorem tP_dec1 : tP.dec (.sl [.n .u64 1]) = some 1 := by
  have := tP.h1 1; rw [tP_enc, wd_lit1] at this; exact this

/-- A row of two polynomials. -/
def two : List V → Option (Nat × Nat)
  | [a, b] => match tP.dec a, tP.dec b with
    | some x, some y => some (x, y)
    | _, _ => none
  | _ => none
attribute [go_sem] two.eq_1
theorem two_some {cs : List V} {p : Nat × Nat} (h : two cs = some p) : cs = [.sl (els (V.n .u64) (wd p.1)), .sl (els (V.n .u64) (wd p.2))] := by
  unfold two at h
  split at h
  · split at h
    · rename_i a b x y hx hy
      injection h with h; subst h
      rw [tP.h2 _ _ hx, tP.h2 _ _ hy]; rfl
    · cases h
  · cases h

def c_gfdiv_both_1 : Cn
  | [.obj i 0, .obj j 0], om, K => @so _ (om i) ⟨fun cs => @so _ (om j) ⟨fun ds => @so _ (two cs) ⟨fun x => @so _ (two ds) ⟨fun y =>
      (bl x.1 ≤ 67108864 ∧ bl x.2 ≤ 67108864 ∧ bl y.1 ≤ 67108864 ∧ bl y.2 ≤ 67108864 ∧ y.1 ≠ 0 ∧ i ≠ j) ∧
      K.k (.tup []) ((om.put i [vP y.1, vP y.2]).put j [vP (rm x.1 y.1), vP (x.2 ^^^ cm (qd x.1 y.1) y.2)])⟩⟩⟩⟩
  | _, _, _ => False
attribute [go_sem] c_gfdiv_both_1.eq_1
theorem c_gfdiv_both_1_mono : Mono c_gfdiv_both_1 := by
  intro args om K K' hK h
  unfold c_gfdiv_both_1 at h ⊢
  split at h
  · exact mono_so (fun _ h => mono_so (fun _ h => mono_so (fun _ h => mono_so (fun _ h => ⟨h.1, hK _ _ h.2⟩) h) h) h) h
  · exact h.elim
noncomputable def cx_gfdiv_both_1 : Cx := { T := T, E := E, cs := [(29, c_gfp_Mul), (51, c_gfp_Add), (85, c_gfdiv_parts)], sch := [(1, false, .take 0 (.take 1 (.take 3 (.take 4 (.take 5 (.take 7 (.alt 2 (.alt 6 (.alt 8 (.alt 9 (.alt 10 (.take 11 (.alt 12 (.alt 13 (.done) .no) .no)) .no) .no) .no) (.alt 8 (.alt 6 (.alt 9 (.alt 10 (.take 11 (.alt 12 (.alt 13 (.done) .no) .no)) .no) .no) .no) (.no))) (.alt 6 (.alt 2 (.alt 8 (.alt 9 (.alt 10 (.take 11 (.alt 12 (.alt 13 (.done) .no) .no)) .no) .no) .no) (.alt 8 (.alt 2 (.alt 9 (.alt 10 (.take 11 (.alt 12 (.alt 13 (.done) .no) .no)) .no) .no) (.alt 9 (.alt 2 (.alt 10 (.take 11 (.alt 12 (.alt 13 (.done) .no) .no)) .no) (.alt 10 (.alt 2 (.take 11 (.alt 12 (.alt 13 (.done) .no) .no)) (.alt 12 (.take 2 (.take 11 (.alt 13 (.done) .no))) (.no))) (.no))) (.no))) (.no))) (.alt 8 (.alt 2 (.alt 6 (.alt 9 (.alt 10 (.take 11 (.alt 12 (.alt 13 (.done) .no) .no)) .no) .no) .no) (.alt 6 (.alt 2 (.alt 9 (.alt 10 (.take 11 (.alt 12 (.alt 13 (.done) .no) .no)) .no) .no) (.alt 9 (.alt 2 (.alt 10 (.take 11 (.alt 12 (.alt 13 (.done) .no) .no)) .no) (.alt 10 (.alt 2 (.take 11 (.alt 12 (.alt 13 (.done) .no) .no)) (.alt 12 (.take 2 (.take 11 (.alt 13 (.done) .no))) (.no))) (.no))) (.no))) (.no))) (.no))))))))))], ob := [], qs := [29, 51, 85] }
@[go_sem] theorem cx_gfdiv_both_1_md : cx_gfdiv_both_1.md = 0 := rfl
@[go_sem] theorem cx_gfdiv_both_1_T : cx_gfdiv_both_1.T = T := rfl
@[go_sem] theorem cx_gfdiv_both_1_E : cx_gfdiv_both_1.E = E := rfl
@[go_sem] theorem cx_gfdiv_both_1_cs : cx_gfdiv_both_1.cs = [(29, c_gfp_Mul), (51, c_gfp_Add), (85, c_gfdiv_parts)] := rfl
@[go_sem] theorem cx_gfdiv_both_1_sch : cx_gfdiv_both_1.sch = [(1, false, .take 0 (.take 1 (.take 3 (.take 4 (.take 5 (.take 7 (.alt 2 (.alt 6 (.alt 8 (.alt 9 (.alt 10 (.take 11 (.alt 12 (.alt 13 (.done) .no) .no)) .no) .no) .no) (.alt 8 (.alt 6 (.alt 9 (.alt 10 (.take 11 (.alt 12 (.alt 13 (.done) .no) .no)) .no) .no) .no) (.no))) (.alt 6 (.alt 2 (.alt 8 (.alt 9 (.alt 10 (.take 11 (.alt 12 (.alt 13 (.done) .no) .no)) .no) .no) .no) (.alt 8 (.alt 2 (.alt 9 (.alt 10 (.take 11 (.alt 12 (.alt 13 (.done) .no) .no)) .no) .no) (.alt 9 (.alt 2 (.alt 10 (.take 11 (.alt 12 (.alt 13 (.done) .no) .no)) .no) (.alt 10 (.alt 2 (.take 11 (.alt 12 (.alt 13 (.done) .no) .no)) (.alt 12 (.take 2 (.take 11 (.alt 13 (.done) .no))) (.no))) (.no))) (.no))) (.no))) (.alt 8 (.alt 2 (.alt 6 (.alt 9 (.alt 10 (.take 11 (.alt 12 (.alt 13 (.done) .no) .no)) .no) .no) .no) (.alt 6 (.alt 2 (.alt 9 (.alt 10 (.take 11 (.alt 12 (.alt 13 (.done) .no) .no)) .no) .no) (.alt 9 (.alt 2 (.alt 10 (.take 11 (.alt 12 (.alt 13 (.done) .no) .no)) .no) (.alt 10 (.alt 2 (.take 11 (.alt 12 (.alt 13 (.done) .no) .no)) (.alt 12 (.take 2 (.take 11 (.alt 13 (.done) .no))) (.no))) (.no))) (.no))) (.no))) (.no))))))))))] := rfl
@[go_sem] theorem cx_gfdiv_both_1_ob (d : Nat) : (cx_gfdiv_both_1.ob).contains d = false := rfl
theorem cok_gfdiv_both_1 : COk Try.prog (cx_gfdiv_both_1) := cok_of rfl (.cons ok_gfp_Mul (.cons ok_gfp_Add (.cons ok_gfdiv_parts (.nil)))) (.cons (fun _ => fn2_quiet) (.cons (fun _ => fn2_quiet) (.cons (fun _ => fn2_quiet) (.nil)))) (.nil)
set_option maxHeartbeats 1000000 in
theorem ok_gfdiv_both_1 : Ok Try.prog 90 c_gfdiv_both_1 := by
  refine ok_of_body1 cok_gfdiv_both_1 mixed Try.func90 rfl (by kernel_rfl) (by kernel_rfl) c_gfdiv_both_1_mono fun args om Q hw h => ?_
  unfold c_gfdiv_both_1 at h
  split at h <;> first | exact h.elim | skip
  rename_i om _ _ _ i j
  replace h := so_inv h; obtain ⟨cs, hcs, h⟩ := h
  replace h := so_inv h; obtain ⟨ds, hds, h⟩ := h
  replace h := so_inv h; obtain ⟨⟨r, s⟩, hx, h⟩ := h
  replace h := so_inv h; obtain ⟨⟨r', s'⟩, hy, ⟨l1, l2, l3, l4, h0, hij⟩, h⟩ := h
  obtain rfl := two_some hx
  obtain rfl := two_some hy
  simp only at l1 l2 l3 l4 h0 hcs hds
  have hji : ¬ j = i := fun e => hij e.symm
  replace h : Q (.tup []) ((om.put i [vP r', vP s']).put j [vP (rm r r'), vP (s ^^^ cm (qd r r') s')]) := h
  simp only [vP_eq] at h
  simp only [go_sem, Try.f90, Nat.reduceEqDiff, Nat.reduceBEq, Int.reduceToNat, Nat.reducePow, Nat.reduceMod, Nat.reduceAdd, Nat.reduceSub, Nat.reduceMul, Nat.reduceDiv, Nat.reduceLeDiff, Int.reduceAdd, Int.reduceSub, Int.reduceMul, Int.reduceDiv, Int.reduceMod, Int.reduceLE, Int.reduceLT, Int.reduceNeg, Int.reduceEq, Int.cast_ofNat_Int, Int.natCast_zero, List.contains_cons, List.contains_nil, Bool.or_false, Bool.or_true, Bool.true_or, reduceCtorEq, or_false, or_true, false_or, true_or, and_false, false_and, ne_eq, List.take_zero, List.take_succ_cons, List.take_nil, List.drop_zero, List.drop_succ_cons, List.drop_nil, decide_true, decide_false, c_gfp_Mul, c_gfp_Add, c_gfdiv_parts, hcs, hds, hji]
  have b1 := bl_qd_le r h0
  have b2 := bl_cm_le (qd r r') s'
  have b3 := bl_xor_le s (cm (qd r r') s')
  clear hw hx hy hcs hds
  repeat' (first | with_reducible refine And.intro ?_ ?_ | with_reducible intro _)
  all_goals first | exact h | omega

theorem new_ne {om : Om} {i j : Nat} {cs : List V} (h : (if j = i then some cs else om j) = none) : ¬ j = i ∧ ¬ i = j ∧ om j = none := by
  split at h
  · cases h
  · rename_i hn; exact ⟨hn, fun e => hn e.symm, h⟩
theorem om_four (om : Om) {i j : Nat} (h : ¬ j = i) (a b c d : List V) : (((om.put i a).put j b).put i c).put j d = (om.put i c).put j d := by
  funext k; simp only [Om.put]
  by_cases e : k = j
  · simp [e]
  · by_cases e2 : k = i <;> simp [e, e2]

def c_gfdiv_both : Cn := fn2 tU tU (fun xs ys => xs.length ≤ 262144 ∧ ys.length ≤ 262144) fun xs ys => .agg [vP (eg (pv xs) (pv ys)).1, vP (eg (pv xs) (pv ys)).2]
noncomputable def cx_gfdiv_both : Cx := { T := T, E := E, cs := [(61, c_gfp_Own), (90, c_gfdiv_both_1)], sch := [], ob := [5,6], qs := [61] }
@[go_sem] theorem cx_gfdiv_both_md : cx_gfdiv_both.md = 0 := rfl
@[go_sem] theorem cx_gfdiv_both_T : cx_gfdiv_both.T = T := rfl
@[go_sem] theorem cx_gfdiv_both_E : cx_gfdiv_both.E = E := rfl
@[go_sem] theorem cx_gfdiv_both_cs : cx_gfdiv_both.cs = [(61, c_gfp_Own), (90, c_gfdiv_both_1)] := rfl
@[go_sem] theorem cx_gfdiv_both_ob : cx_gfdiv_both.ob = [5,6] := rfl
theorem cok_gfdiv_both : COk Try.prog (cx_gfdiv_both) := cok_of rfl (.cons ok_gfp_Own (.cons ok_gfdiv_both_1 (.nil))) (.cons (fun _ => fn1_quiet) (.cons (fun h => absurd h (by decide)) (.nil))) (.nil)
theorem ok_gfdiv_both : Ok Try.prog 78 c_gfdiv_both := by
  refine ok_fn2 cok_gfdiv_both mixed Try.func78 rfl (by kernel_rfl) (by kernel_rfl) rfl ?_
  intro xs ys om hw ⟨hl, hl'⟩
  have hx := (wf_u ⟨hw.1, trivial⟩).2
  have hy := (wf_u ⟨hw.2.1, trivial⟩).2
  have b1 := bl_pv hx
  have b2 := bl_pv hy
  simp only [go_sem, Try.f78, Nat.reduceEqDiff, Nat.reduceBEq, Int.reduceToNat, Nat.reducePow, Nat.reduceMod, Nat.reduceAdd, Nat.reduceSub, Nat.reduceMul, Nat.reduceDiv, Nat.reduceLeDiff, Int.reduceAdd, Int.reduceSub, Int.reduceMul, Int.reduceDiv, Int.reduceMod, Int.reduceLE, Int.reduceLT, Int.reduceNeg, Int.reduceEq, Int.cast_ofNat_Int, Int.natCast_zero, List.contains_cons, List.contains_nil, Bool.or_false, Bool.or_true, Bool.true_or, reduceCtorEq, or_false, or_true, false_or, true_or, and_false, false_and, ne_eq, List.take_zero, List.take_succ_cons, List.take_nil, List.drop_zero, List.drop_succ_cons, List.drop_nil, decide_true, decide_false, c_gfp_Own, c_gfdiv_both_1]
  obtain ⟨A, hA⟩ : ∃ A, pv xs = A := ⟨_, rfl⟩
  obtain ⟨B, hBB⟩ : ∃ B, pv ys = B := ⟨_, rfl⟩
  rw [hA] at b1 ⊢
  rw [hBB] at b2 ⊢
  refine ⟨by omega, fun _ => ⟨by omega, by omega, fun _ i hi j hj => ?_⟩⟩
  obtain ⟨hji, hij, hj⟩ := new_ne hj
  simp only [go_sem, Nat.reduceEqDiff, Nat.reduceBEq, Int.reduceToNat, Nat.reducePow, Nat.reduceMod, Nat.reduceAdd, Nat.reduceSub, Nat.reduceMul, Nat.reduceDiv, Nat.reduceLeDiff, Int.reduceAdd, Int.reduceSub, Int.reduceMul, Int.reduceDiv, Int.reduceMod, Int.reduceLE, Int.reduceLT, Int.reduceNeg, Int.reduceEq, Int.cast_ofNat_Int, Int.natCast_zero, List.contains_cons, List.contains_nil, Bool.or_false, Bool.or_true, Bool.true_or, reduceCtorEq, or_false, or_true, false_or, true_or, and_false, false_and, ne_eq, List.take_zero, List.take_succ_cons, List.take_nil, List.drop_zero, List.drop_succ_cons, List.drop_nil, decide_true, decide_false, c_gfp_Own, c_gfdiv_both_1, hji, hij]
  refine ⟨Nat × Nat × Nat × Nat, fun p => ⟨[.u, .u, .u, .u, .ref 4 1 2 0 0, .obj i 0, .obj j 0, .fn (Fn.func 90) [] [.obj i 0, .obj j 0], .u, .u, .u, .u, .u, .u, .u, .u, .u, .u, .u, .u, .u, .u, .u], [(4, ⟨2, true, [.agg [.nils, .nils]], false⟩)], (om.put i [vP p.1, vP p.2.1]).put j [vP p.2.2.1, vP p.2.2.2]⟩,
    fun p => (∃ k, bl p.2.2.1 < k ∧ egF k p.1 p.2.1 p.2.2.1 p.2.2.2 = eg A B) ∧ bl p.2.2.2 + bl p.1 ≤ bl A + bl B + 1 ∧ bl p.2.1 + bl p.2.2.1 ≤ bl A + bl B + 1, fun p => bl p.2.2.1, ⟨(A, 1, B, 0), ⟨⟨bl B + 1, Nat.lt_succ_self _, rfl⟩, by show bl 0 + bl A ≤ _; rw [bl_zero]; omega, by show bl 1 + bl B ≤ _; have : bl 1 = 1 := rfl; omega⟩, ?_⟩, ?_⟩
  · simp only [go_sem, Nat.reduceEqDiff, Nat.reduceBEq, Int.reduceToNat, Nat.reducePow, Nat.reduceMod, Nat.reduceAdd, Nat.reduceSub, Nat.reduceMul, Nat.reduceDiv, Nat.reduceLeDiff, Int.reduceAdd, Int.reduceSub, Int.reduceMul, Int.reduceDiv, Int.reduceMod, Int.reduceLE, Int.reduceLT, Int.reduceNeg, Int.reduceEq, Int.cast_ofNat_Int, Int.natCast_zero, List.contains_cons, List.contains_nil, Bool.or_false, Bool.or_true, Bool.true_or, reduceCtorEq, or_false, or_true, false_or, true_or, and_false, false_and, ne_eq, List.take_zero, List.take_succ_cons, List.take_nil, List.drop_zero, List.drop_succ_cons, List.drop_nil, decide_true, decide_false, c_gfp_Own, c_gfdiv_both_1, om_four _ hji, wd_lit1, els_cons, els_nil]
  · rintro ⟨r, s, r', s'⟩ ⟨⟨k, hk, he⟩, h1, h2⟩
    simp only at hk he h1 h2
    simp only [go_sem, Nat.reduceEqDiff, Nat.reduceBEq, Int.reduceToNat, Nat.reducePow, Nat.reduceMod, Nat.reduceAdd, Nat.reduceSub, Nat.reduceMul, Nat.reduceDiv, Nat.reduceLeDiff, Int.reduceAdd, Int.reduceSub, Int.reduceMul, Int.reduceDiv, Int.reduceMod, Int.reduceLE, Int.reduceLT, Int.reduceNeg, Int.reduceEq, Int.cast_ofNat_Int, Int.natCast_zero, List.contains_cons, List.contains_nil, Bool.or_false, Bool.or_true, Bool.true_or, reduceCtorEq, or_false, or_true, false_or, true_or, and_false, false_and, ne_eq, List.take_zero, List.take_succ_cons, List.take_nil, List.drop_zero, List.drop_succ_cons, List.drop_nil, decide_true, decide_false, c_gfp_Own, c_gfdiv_both_1, hji, hij]
    have hr0 := bl_pos (x := r')
    have hB0 := bl_eq_zero (x := r')
    refine ⟨fun hpos => ?_, fun hz => ?_⟩
    · have hr' : r' ≠ 0 := by rintro rfl; simp [bl_zero] at hpos
      obtain ⟨k, rfl⟩ : ∃ m, k = m + 1 := ⟨k - 1, by omega⟩
      have b3 := rm_lt r hr'
      have b4 := bl_rm_le r hr'
      have b5 := eg_step_bl hr' h1 h2
      refine ⟨⟨by omega, by omega, by omega, by omega, hr'⟩, (r', s', rm r r', s ^^^ cm (qd r r') s'), ⟨⟨k, by show bl (rm r r') < k; omega, ?_⟩, b5, by show bl s' + bl (rm r r') ≤ _; omega⟩, ?_, b3⟩
      · show egF k r' s' (rm r r') (s ^^^ cm (qd r r') s') = _
        rw [← he]; simp only [egF]; rw [if_neg hr']
      · rw [om_four _ hji]; exact .refl _
    · have hr' : r' = 0 := by omega
      subst hr'
      have e : egF k r s 0 s' = (r, s) := by
        cases k with
        | zero => omega
        | succ k => simp [egF]
      rw [← he, e]
      exact ⟨by omega, by omega, .put hj (.put hi (.refl _)), rfl, rfl⟩

def c_gfdiv_Gcd : Cn := fn2 tU tU (fun xs ys => xs.length ≤ 262144 ∧ ys.length ≤ 262144) fun xs ys => vP (gd (pv xs) (pv ys))
noncomputable def cx_gfdiv_Gcd : Cx := { T := T, E := E, cs := [(78, c_gfdiv_both)], sch := [], ob := [], qs := [78] }
@[go_sem] theorem cx_gfdiv_Gcd_md : cx_gfdiv_Gcd.md = 0 := rfl
@[go_sem] theorem cx_gfdiv_Gcd_T : cx_gfdiv_Gcd.T = T := rfl
@[go_sem] theorem cx_gfdiv_Gcd_E : cx_gfdiv_Gcd.E = E := rfl
@[go_sem] theorem cx_gfdiv_Gcd_cs : cx_gfdiv_Gcd.cs = [(78, c_gfdiv_both)] := rfl
@[go_sem] theorem cx_gfdiv_Gcd_ob (d : Nat) : (cx_gfdiv_Gcd.ob).contains d = false := rfl
theorem cok_gfdiv_Gcd : COk Try.prog (cx_gfdiv_Gcd) := cok_of rfl (.cons ok_gfdiv_both (.nil)) (.cons (fun _ => fn2_quiet) (.nil)) (.nil)
theorem ok_gfdiv_Gcd : Ok Try.prog 50 c_gfdiv_Gcd := by
  refine ok_fn2 cok_gfdiv_Gcd mixed Try.func50 rfl (by kernel_rfl) (by kernel_rfl) rfl ?_
  intro xs ys om hw ⟨hl, hl'⟩
  simp only [go_sem, Try.f50, Nat.reduceEqDiff, Nat.reduceBEq, Int.reduceToNat, Nat.reducePow, Nat.reduceMod, Nat.reduceAdd, Nat.reduceSub, Nat.reduceMul, Nat.reduceDiv, Nat.reduceLeDiff, Int.reduceAdd, Int.reduceSub, Int.reduceMul, Int.reduceDiv, Int.reduceMod, Int.reduceLE, Int.reduceLT, Int.reduceNeg, Int.reduceEq, Int.cast_ofNat_Int, Int.natCast_zero, List.contains_cons, List.contains_nil, Bool.or_false, Bool.or_true, Bool.true_or, reduceCtorEq, or_false, or_true, false_or, true_or, and_false, false_and, ne_eq, List.take_zero, List.take_succ_cons, List.take_nil, List.drop_zero, List.drop_succ_cons, List.drop_nil, decide_true, decide_false, c_gfdiv_both]
  exact ⟨⟨hl, hl'⟩, fun _ => rfl⟩

def c_gfdiv_Inverse : Cn := fn2j tU tU (fun xs ys => xs.length ≤ 262144 ∧ ys.length ≤ 262144) (fun _ ys => pv ys = 0) (fun xs ys => gd (pv xs) (pv ys) = 1) (fun _ _ => .tup [vP 0, .z 8]) (fun xs ys => .tup [vP (iv (pv xs) (pv ys)), .z 0]) (fun _ _ => .tup [vP 0, .z 1])
end Go.Proofs.Ytaojebdjkpdcdaa.I
