/- gfpow: Rounds, bits, square, Pow, X, Squares. -/
import Derived.Test.YtaojebdjkpdcdaaWide1
import Derived.Test.YtaojebdjkpdcdaaGfdiv2
import Derived.Test.YtaojebdjkpdcdaaG1
namespace Go.Proofs.Ytaojebdjkpdcdaa.I
open Go
set_option maxRecDepth 10000
set_option linter.unusedSimpArgs false
set_option linter.unusedVariables false

noncomputable def c_gfpow_Rounds : Cn := fn1 tW (fun _ => True) fun x => .z (bl x)
noncomputable def cx_gfpow_Rounds : Cx := { T := T, E := E, cs := [(59, c_wide_Len)], sch := [], ob := [], qs := [59] }
@[go_sem] theorem cx_gfpow_Rounds_md : cx_gfpow_Rounds.md = 0 := rfl
@[go_sem] theorem cx_gfpow_Rounds_T : cx_gfpow_Rounds.T = T := rfl
@[go_sem] theorem cx_gfpow_Rounds_E : cx_gfpow_Rounds.E = E := rfl
@[go_sem] theorem cx_gfpow_Rounds_cs : cx_gfpow_Rounds.cs = [(59, c_wide_Len)] := rfl
@[go_sem] theorem cx_gfpow_Rounds_ob (d : Nat) : (cx_gfpow_Rounds.ob).contains d = false := rfl
theorem cok_gfpow_Rounds : COk Try.prog (cx_gfpow_Rounds) := cok_of rfl (.cons ok_wide_Len (.nil)) (.cons (fun _ => fn1_quiet) (.nil)) (.nil)
theorem ok_gfpow_Rounds : Ok Try.prog 22 c_gfpow_Rounds := by
  refine ok_fn1 cok_gfpow_Rounds mixed Try.func22 rfl (by kernel_rfl) (by kernel_rfl) rfl ?_
  intro x om hw _
  simp only [go_sem, Try.f22, Nat.reduceEqDiff, Nat.reduceBEq, Int.reduceToNat, Nat.reducePow, Nat.reduceMod, Nat.reduceAdd, Nat.reduceSub, Nat.reduceMul, Nat.reduceDiv, Nat.reduceLeDiff, Int.reduceAdd, Int.reduceSub, Int.reduceMul, Int.reduceDiv, Int.reduceMod, Int.reduceLE, Int.reduceLT, Int.reduceNeg, Int.reduceEq, Int.cast_ofNat_Int, Int.natCast_zero, List.contains_cons, List.contains_nil, Bool.or_false, Bool.or_true, Bool.true_or, reduceCtorEq, or_false, or_true, false_or, true_or, and_false, false_and, ne_eq, List.take_zero, List.take_succ_cons, List.take_nil, List.drop_zero, List.drop_succ_cons, List.drop_nil, decide_true, decide_false, c_wide_Len]
  exact Nat.zero_lt_one

def c_gfpow_square : Cn := fn2 tU tU (fun xs ps => xs.length ≤ 262144 ∧ ps.length ≤ 1048576 ∧ pv ps ≠ 0) fun xs ps => vP (rm (cm (pv xs) (pv xs)) (pv ps))
noncomputable def cx_gfpow_square : Cx := { T := T, E := E, cs := [(36, c_gfdiv_Mod), (83, c_gfp_Square)], sch := [], ob := [], qs := [36, 83] }
@[go_sem] theorem cx_gfpow_square_md : cx_gfpow_square.md = 0 := rfl
@[go_sem] theorem cx_gfpow_square_T : cx_gfpow_square.T = T := rfl
@[go_sem] theorem cx_gfpow_square_E : cx_gfpow_square.E = E := rfl
@[go_sem] theorem cx_gfpow_square_cs : cx_gfpow_square.cs = [(36, c_gfdiv_Mod), (83, c_gfp_Square)] := rfl
@[go_sem] theorem cx_gfpow_square_ob (d : Nat) : (cx_gfpow_square.ob).contains d = false := rfl
theorem cok_gfpow_square : COk Try.prog (cx_gfpow_square) := cok_of rfl (.cons ok_gfdiv_Mod (.cons ok_gfp_Square (.nil))) (.cons (fun _ => fn2i_quiet) (.cons (fun _ => fn1_quiet) (.nil))) (.nil)
theorem ok_gfpow_square : Ok Try.prog 55 c_gfpow_square := by
  refine ok_fn2 cok_gfpow_square mixed Try.func55 rfl (by kernel_rfl) (by kernel_rfl) rfl ?_
  intro xs ps om hw ⟨h1, h2, h3⟩
  have b1 := bl_pv (wf_u ⟨hw.1, trivial⟩).2
  have b2 := bl_cm_le (pv xs) (pv xs)
  simp only [go_sem, Try.f55, Nat.reduceEqDiff, Nat.reduceBEq, Int.reduceToNat, Nat.reducePow, Nat.reduceMod, Nat.reduceAdd, Nat.reduceSub, Nat.reduceMul, Nat.reduceDiv, Nat.reduceLeDiff, Int.reduceAdd, Int.reduceSub, Int.reduceMul, Int.reduceDiv, Int.reduceMod, Int.reduceLE, Int.reduceLT, Int.reduceNeg, Int.reduceEq, Int.cast_ofNat_Int, Int.natCast_zero, List.contains_cons, List.contains_nil, Bool.or_false, Bool.or_true, Bool.true_or, reduceCtorEq, or_false, or_true, false_or, true_or, and_false, false_and, ne_eq, List.take_zero, List.take_succ_cons, List.take_nil, List.drop_zero, List.drop_succ_cons, List.drop_nil, decide_true, decide_false, c_gfdiv_Mod, c_gfp_Square, h3]
  exact ⟨by omega, fun _ => by omega⟩

/-- The bits of a number, from the highest one on: what is told of each, and what is so then. -/
def goB (cy : Cn) (id : Nat) (cs : List V) (n : Nat) : Nat → Om → (V → Om → Prop) → Prop
  | 0, om, K => K (.tup []) om
  | i + 1, om, K => om id = some cs ∧ @cy [.z (tb n i)] om ⟨fun r om' => r = .b true ∧ goB cy id cs n i om' K⟩
theorem tW_agg {cs : List V} {n : Nat} (h : tW.dec (.agg cs) = some n) : cs = [.n .u64 (n / 18446744073709551616), .n .u64 (n % 18446744073709551616)] := by
  have := tW.h2 _ _ h
  rw [tW_enc] at this
  injection this

noncomputable def rc_gfpow_bits_1 (cy : Cn) : Cn
  | [.obj id 0], om, K => @so _ (om id) ⟨fun cs => @so _ (tW.dec (.agg cs)) ⟨fun n => n < 340282366920938463463374607431768211456 ∧ goB cy id cs n (bl n) om K.k⟩⟩
  | _, _, _ => False
noncomputable def cx_gfpow_bits_1 (l : Nat) (cy : Cn) : Cx := { T := T, E := E, cs := [(22, c_gfpow_Rounds), (82, c_wide_Bit)], sch := [], ob := [], qs := [22, 82], y := some (l, cy) }
@[go_sem] theorem cx_gfpow_bits_1_md (l : Nat) (cy : Cn) : (cx_gfpow_bits_1 l cy).md = 0 := rfl
@[go_sem] theorem cx_gfpow_bits_1_T (l : Nat) (cy : Cn) : (cx_gfpow_bits_1 l cy).T = T := rfl
@[go_sem] theorem cx_gfpow_bits_1_E (l : Nat) (cy : Cn) : (cx_gfpow_bits_1 l cy).E = E := rfl
@[go_sem] theorem cx_gfpow_bits_1_cs (l : Nat) (cy : Cn) : (cx_gfpow_bits_1 l cy).cs = [(22, c_gfpow_Rounds), (82, c_wide_Bit)] := rfl
@[go_sem] theorem cx_gfpow_bits_1_y (l : Nat) (cy : Cn) : (cx_gfpow_bits_1 l cy).y = some (l, cy) := rfl
@[go_sem] theorem cx_gfpow_bits_1_ob (l : Nat) (cy : Cn) (d : Nat) : ((cx_gfpow_bits_1 l cy).ob).contains d = false := rfl
theorem cok_gfpow_bits_1 (l : Nat) (cy : Cn) : COk Try.prog (cx_gfpow_bits_1 l cy) := cok_of rfl (.cons ok_gfpow_Rounds (.cons ok_wide_Bit (.nil))) (.cons (fun _ => fn1_quiet) (.cons (fun _ => fn2_quiet) (.nil))) (.nil)
theorem okR_gfpow_bits_1 : OkR Try.prog 81 rc_gfpow_bits_1 := by
  refine okR_of_body cok_gfpow_bits_1 mixed Try.func81 rfl (by kernel_rfl) (fun _ _ => by kernel_rfl) (fun _ _ => rfl) fun l cy caps om Q hm hw h => ?_
  unfold rc_gfpow_bits_1 at h
  split at h <;> first | exact h.elim | skip
  rename_i om _ _ _ id
  replace h := so_inv h; obtain ⟨cs, hcs, h⟩ := h
  replace h := so_inv h; obtain ⟨n, hn, h⟩ := h
  obtain rfl := tW_agg hn
  obtain ⟨hn128, h⟩ := h
  have hb : bl n ≤ 128 := bl_lt.2 hn128
  simp only [go_sem, Try.f81, Nat.reduceEqDiff, Nat.reduceBEq, Int.reduceToNat, Nat.reducePow, Nat.reduceMod, Nat.reduceAdd, Nat.reduceSub, Nat.reduceMul, Nat.reduceDiv, Nat.reduceLeDiff, Int.reduceAdd, Int.reduceSub, Int.reduceMul, Int.reduceDiv, Int.reduceMod, Int.reduceLE, Int.reduceLT, Int.reduceNeg, Int.reduceEq, Int.cast_ofNat_Int, Int.natCast_zero, List.contains_cons, List.contains_nil, Bool.or_false, Bool.or_true, Bool.true_or, reduceCtorEq, or_false, or_true, false_or, true_or, and_false, false_and, ne_eq, List.take_zero, List.take_succ_cons, List.take_nil, List.drop_zero, List.drop_succ_cons, List.drop_nil, decide_true, decide_false, c_gfpow_Rounds, c_wide_Bit, hcs]
  intro _
  refine ⟨by omega, Nat × Om, fun x => ⟨[.fn (Fn.yield l) [] [], .obj id 0, .u, .z ((x.1 : Int) - 1), .u, .u, .u, .u, .u, .u, .u, .u, .u, .u, .u, .u, .u], [], x.2⟩, fun x => x.1 ≤ bl n ∧ goB cy id [.n .u64 (n / 18446744073709551616), .n .u64 (n % 18446744073709551616)] n x.1 x.2 Q, fun x => x.1, ⟨(bl n, om), ⟨Nat.le_refl _, h⟩, ?_⟩, ?_⟩
  · simp only [go_sem, Nat.reduceEqDiff, Nat.reduceBEq, Int.reduceToNat, Nat.reducePow, Nat.reduceMod, Nat.reduceAdd, Nat.reduceSub, Nat.reduceMul, Nat.reduceDiv, Nat.reduceLeDiff, Int.reduceAdd, Int.reduceSub, Int.reduceMul, Int.reduceDiv, Int.reduceMod, Int.reduceLE, Int.reduceLT, Int.reduceNeg, Int.reduceEq, Int.cast_ofNat_Int, Int.natCast_zero, List.contains_cons, List.contains_nil, Bool.or_false, Bool.or_true, Bool.true_or, reduceCtorEq, or_false, or_true, false_or, true_or, and_false, false_and, ne_eq, List.take_zero, List.take_succ_cons, List.take_nil, List.drop_zero, List.drop_succ_cons, List.drop_nil, decide_true, decide_false, c_gfpow_Rounds, c_wide_Bit]
  · rintro ⟨i, om⟩ ⟨h1, h⟩
    simp only at h1 h
    cases i with
    | zero =>
      simp only [go_sem, Nat.reduceEqDiff, Nat.reduceBEq, Int.reduceToNat, Nat.reducePow, Nat.reduceMod, Nat.reduceAdd, Nat.reduceSub, Nat.reduceMul, Nat.reduceDiv, Nat.reduceLeDiff, Int.reduceAdd, Int.reduceSub, Int.reduceMul, Int.reduceDiv, Int.reduceMod, Int.reduceLE, Int.reduceLT, Int.reduceNeg, Int.reduceEq, Int.cast_ofNat_Int, Int.natCast_zero, List.contains_cons, List.contains_nil, Bool.or_false, Bool.or_true, Bool.true_or, reduceCtorEq, or_false, or_true, false_or, true_or, and_false, false_and, ne_eq, List.take_zero, List.take_succ_cons, List.take_nil, List.drop_zero, List.drop_succ_cons, List.drop_nil, decide_true, decide_false, c_gfpow_Rounds, c_wide_Bit]
      exact ⟨om, .refl _, h⟩
    | succ i =>
      obtain ⟨h2, h3⟩ := h
      simp only [go_sem, Nat.reduceEqDiff, Nat.reduceBEq, Int.reduceToNat, Nat.reducePow, Nat.reduceMod, Nat.reduceAdd, Nat.reduceSub, Nat.reduceMul, Nat.reduceDiv, Nat.reduceLeDiff, Int.reduceAdd, Int.reduceSub, Int.reduceMul, Int.reduceDiv, Int.reduceMod, Int.reduceLE, Int.reduceLT, Int.reduceNeg, Int.reduceEq, Int.cast_ofNat_Int, Int.natCast_zero, List.contains_cons, List.contains_nil, Bool.or_false, Bool.or_true, Bool.true_or, reduceCtorEq, or_false, or_true, false_or, true_or, and_false, false_and, ne_eq, List.take_zero, List.take_succ_cons, List.take_nil, List.drop_zero, List.drop_succ_cons, List.drop_nil, decide_true, decide_false, c_gfpow_Rounds, c_wide_Bit, h2]
      refine ⟨fun _ _ => ?_, fun h => absurd (show (0 : Int) ≤ ((i + 1 : Nat) : Int) - 1 by omega) h⟩
      rw [show ((i + 1 : Nat) : Int) - 1 = i by omega]
      refine hm _ _ _ _ (fun r om' hr => ?_) h3
      obtain ⟨rfl, hr⟩ := hr
      simp only [go_sem, Nat.reduceEqDiff, Nat.reduceBEq, Int.reduceToNat, Nat.reducePow, Nat.reduceMod, Nat.reduceAdd, Nat.reduceSub, Nat.reduceMul, Nat.reduceDiv, Nat.reduceLeDiff, Int.reduceAdd, Int.reduceSub, Int.reduceMul, Int.reduceDiv, Int.reduceMod, Int.reduceLE, Int.reduceLT, Int.reduceNeg, Int.reduceEq, Int.cast_ofNat_Int, Int.natCast_zero, List.contains_cons, List.contains_nil, Bool.or_false, Bool.or_true, Bool.true_or, reduceCtorEq, or_false, or_true, false_or, true_or, and_false, false_and, ne_eq, List.take_zero, List.take_succ_cons, List.take_nil, List.drop_zero, List.drop_succ_cons, List.drop_nil, decide_true, decide_false, c_gfpow_Rounds, c_wide_Bit]
      exact ⟨by omega, (i, om'), ⟨by show i ≤ _; omega, hr⟩, ⟨rfl, .refl _⟩, Nat.lt_succ_self _⟩

noncomputable def c_gfpow_bits : Cn
  | [a], om, K => @so _ (tW.dec a) ⟨fun n => ∀ id, om id = none → K.k (.fn (.func 81) [] [.obj id 0]) (om.put id [.n .u64 (n / 18446744073709551616), .n .u64 (n % 18446744073709551616)])⟩
  | _, _, _ => False
attribute [go_sem] c_gfpow_bits.eq_1
theorem c_gfpow_bits_mono : Mono c_gfpow_bits := by
  intro args om K K' hK h
  unfold c_gfpow_bits at h ⊢
  split at h
  · exact mono_so (fun x h id hid => hK _ _ (h id hid)) h
  · exact h.elim
theorem quiet_gfpow_bits : Quiet c_gfpow_bits := by
  intro args om K h
  unfold c_gfpow_bits at h ⊢
  split at h
  · exact mono_so (fun x h id hid => ⟨.put hid (.refl _), h id hid⟩) h
  · exact h.elim
noncomputable def cx_gfpow_bits : Cx := { T := T, E := E, cs := [], sch := [], ob := [1], qs := [] }
@[go_sem] theorem cx_gfpow_bits_md : cx_gfpow_bits.md = 0 := rfl
@[go_sem] theorem cx_gfpow_bits_T : cx_gfpow_bits.T = T := rfl
@[go_sem] theorem cx_gfpow_bits_E : cx_gfpow_bits.E = E := rfl
@[go_sem] theorem cx_gfpow_bits_cs : cx_gfpow_bits.cs = [] := rfl
@[go_sem] theorem cx_gfpow_bits_ob : cx_gfpow_bits.ob = [1] := rfl
theorem cok_gfpow_bits : COk Try.prog (cx_gfpow_bits) := cok_of rfl (.nil) (.nil) (.nil)
theorem ok_gfpow_bits : Ok Try.prog 54 c_gfpow_bits := by
  refine ok_of_body1 cok_gfpow_bits mixed Try.func54 rfl (by kernel_rfl) (by kernel_rfl) c_gfpow_bits_mono fun args om Q hw h => ?_
  unfold c_gfpow_bits at h
  split at h <;> first | exact h.elim | skip
  rename_i om _ _ _ a
  replace h := so_inv h; obtain ⟨n, hn, h⟩ := h
  obtain rfl := tW.h2 _ _ hn
  simp only [go_sem, Try.f54, Nat.reduceEqDiff, Nat.reduceBEq, Int.reduceToNat, Nat.reducePow, Nat.reduceMod, Nat.reduceAdd, Nat.reduceSub, Nat.reduceMul, Nat.reduceDiv, Nat.reduceLeDiff, Int.reduceAdd, Int.reduceSub, Int.reduceMul, Int.reduceDiv, Int.reduceMod, Int.reduceLE, Int.reduceLT, Int.reduceNeg, Int.reduceEq, Int.cast_ofNat_Int, Int.natCast_zero, List.contains_cons, List.contains_nil, Bool.or_false, Bool.or_true, Bool.true_or, reduceCtorEq, or_false, or_true, false_or, true_or, and_false, false_and, ne_eq, List.take_zero, List.take_succ_cons, List.take_nil, List.drop_zero, List.drop_succ_cons, List.drop_nil, decide_true, decide_false]
  exact h

/-! ### Pow -/
def pstep (r a p : Nat) (b : Int) : Nat := if b = 1 then rm (cm (rm (cm r r) p) a) p else rm (cm r r) p
/-- What a round of Pow does. -/
noncomputable def powCy (a : Nat) (ps : List Nat) (ia io ip : Nat) : Cn
  | [.z b], om, K => (b = 0 ∨ b = 1) ∧ om ia = some [vP (rm a (pv ps))] ∧ om ip = some [.sl (els (V.n .u64) ps)] ∧ ∃ r, bl r < bl (pv ps) ∧ om io = some [vP r] ∧ K.k (.b true) (om.put io [vP (pstep r (rm a (pv ps)) (pv ps) b)])
  | _, _, _ => False
theorem powCy_mono (a : Nat) (ps : List Nat) (ia io ip : Nat) : Mono (powCy a ps ia io ip) := by
  intro args om K K' hK h
  unfold powCy at h ⊢
  split at h
  · obtain ⟨h1, h2, h3, r, h4, h5, h6⟩ := h
    exact ⟨h1, h2, h3, r, h4, h5, hK _ _ h6⟩
  · exact h.elim
theorem powCy_inv {a : Nat} {ps : List Nat} {ia io ip : Nat} {args : List V} {om : Om} {K : V → Om → Prop} (h : @powCy a ps ia io ip args om ⟨K⟩) : ∃ b, args = [.z b] ∧ (b = 0 ∨ b = 1) ∧ om ia = some [vP (rm a (pv ps))] ∧ om ip = some [.sl (els (V.n .u64) ps)] ∧ ∃ r, bl r < bl (pv ps) ∧ om io = some [vP r] ∧ K (.b true) (om.put io [vP (pstep r (rm a (pv ps)) (pv ps) b)]) := by
  unfold powCy at h
  split at h
  · exact ⟨_, rfl, h⟩
  · exact h.elim
theorem put_same {om : Om} {i : Nat} {a : List V} (h : om i = some a) : om.put i a = om := by
  funext k; unfold Om.put; by_cases e : k = i
  · subst e; simp [h]
  · simp [e]
theorem put_get (om : Om) (i : Nat) (a : List V) : (om.put i a) i = some a := by unfold Om.put; simp
theorem put_other (om : Om) {i j : Nat} (a : List V) (h : j ≠ i) : (om.put i a) j = om j := by unfold Om.put; simp [h]
theorem tb01 (n : Nat) (i : Int) : tb n i = 0 ∨ tb n i = 1 := by unfold tb; split <;> simp
theorem pwr_step (a : Nat) {p : Nat} (hp : p ≠ 0) (n i : Nat) : pwr a p (n >>> i) = pstep (pwr a p (n >>> (i + 1))) (rm a p) p (tb n i) := by
  rw [pwr_bit a hp]
  unfold pstep tb
  rw [Int.toNat_natCast]
  by_cases h : n.testBit i = true
  · rw [if_pos h, if_pos (by simp [h])]
  · rw [if_neg h, if_neg (by simp [h])]
theorem goB_pow {a : Nat} {ps : List Nat} (hp : pv ps ≠ 0) {ia io ip id : Nat} (h1 : ia ≠ io) (h2 : ip ≠ io) (h3 : id ≠ io) {om : Om} (e1 : om ia = some [vP (rm a (pv ps))]) (e2 : om ip = some [.sl (els (V.n .u64) ps)]) {cs : List V} (e3 : om id = some cs) {n : Nat} {K : V → Om → Prop}
    (hK : K (.tup []) (om.put io [vP (pwr a (pv ps) n)])) : ∀ i, goB (powCy a ps ia io ip) id cs n i (om.put io [vP (pwr a (pv ps) (n >>> i))]) K
  | 0 => hK
  | i + 1 => by
    refine ⟨by rw [put_other _ _ h3]; exact e3, ?_⟩
    refine ⟨tb01 _ _, by rw [put_other _ _ h1]; exact e1, by rw [put_other _ _ h2]; exact e2, _, pwr_lt a hp _, put_get _ _ _, ?_⟩
    show V.b true = V.b true ∧ _
    rw [om_put_put, ← pwr_step a hp]
    exact ⟨rfl, goB_pow hp h1 h2 h3 e1 e2 e3 hK i⟩

theorem new_iff {x : Option (List V)} {i j : Nat} {cs : List V} : ((if j = i then some cs else x) = none) = (¬ j = i ∧ ¬ i = j ∧ x = none) := by
  apply propext
  by_cases h : j = i
  · simp [h]
  · simp [h, Ne.symm h]
theorem rangeR_intro {cx : Cx} {st : St} {f : FuncId} {caps : List V} {ps : List Tmp} {A : C2 St (C2 Ex St)} {R : C2 St (C2 Ex St)} {Q : C2 Ex St} {rc : Cn → Cn} (h0 : cleans caps = true) (hl : lkR cx.rs f = some rc) (cy : Cn)
    (h1 : ∀ args om K, wfs args → @cy args om ⟨K⟩ → args.length = ps.length ∧
        A.k ⟨fillIn (st.env.map clear1) ps args, [], om⟩ ⟨fun | .nrm, st => R.k ⟨st.env.map clear1, [], st.om⟩ ⟨fun | .nrm, st => ∃ om', OmKept om' st.om ∧ K (.b true) om' | _, _ => False⟩ | _, _ => False⟩)
    (hm : Mono cy) (h3 : @rc cy caps st.om ⟨fun _ om => Q.k .nrm ⟨st.env.map clear1, [], om⟩⟩) : @rangeR cx st (.fn (.func f) [] caps) ps A R Q := by
  unfold rangeR
  refine ⟨h0, ?_⟩
  rw [hl]
  exact ⟨cy, h1, hm, h3⟩
theorem upP_zero (m : Nat) : upP m 0 = m := by simp [upP]
theorem upP_one (m : Nat) : upP m 1 = m <<< 1 := by simp [upP]

noncomputable def c_gfpow_Pow : Cn := fn3i tU tW tU (fun xs n ps => xs.length ≤ 1048576 ∧ ps.length ≤ 262144) (fun _ _ ps => pv ps = 0) (fun _ _ _ => .tup [vP 0, .z 8]) fun xs n ps => .tup [vP (pwr (pv xs) (pv ps) n), .z 0]
noncomputable def cx_gfpow_Pow : Cx := { T := T, E := E, cs := [(32, c_gfdiv_MulMod), (35, c_gfp_X), (36, c_gfdiv_Mod), (54, c_gfpow_bits), (55, c_gfpow_square)], sch := [(4, false, .take 1 (.alt 0 (.alt 2 (.take 3 (.take 4 (.take 5 (.alt 6 (.alt 7 (.take 8 (.done)) .no) .no)))) (.alt 6 (.alt 2 (.take 3 (.take 4 (.take 5 (.alt 7 (.take 8 (.done)) .no)))) .no) (.no))) (.alt 6 (.alt 0 (.alt 2 (.take 3 (.take 4 (.take 5 (.alt 7 (.take 8 (.done)) .no)))) .no) .no) (.no))))], ob := [3,5,9], qs := [32, 35, 36, 54, 55], rs := [(81, rc_gfpow_bits_1)] }
@[go_sem] theorem cx_gfpow_Pow_md : cx_gfpow_Pow.md = 0 := rfl
@[go_sem] theorem cx_gfpow_Pow_T : cx_gfpow_Pow.T = T := rfl
@[go_sem] theorem cx_gfpow_Pow_E : cx_gfpow_Pow.E = E := rfl
@[go_sem] theorem cx_gfpow_Pow_cs : cx_gfpow_Pow.cs = [(32, c_gfdiv_MulMod), (35, c_gfp_X), (36, c_gfdiv_Mod), (54, c_gfpow_bits), (55, c_gfpow_square)] := rfl
@[go_sem] theorem cx_gfpow_Pow_rs : cx_gfpow_Pow.rs = [(81, rc_gfpow_bits_1)] := rfl
@[go_sem] theorem cx_gfpow_Pow_sch : cx_gfpow_Pow.sch = [(4, false, .take 1 (.alt 0 (.alt 2 (.take 3 (.take 4 (.take 5 (.alt 6 (.alt 7 (.take 8 (.done)) .no) .no)))) (.alt 6 (.alt 2 (.take 3 (.take 4 (.take 5 (.alt 7 (.take 8 (.done)) .no)))) .no) (.no))) (.alt 6 (.alt 0 (.alt 2 (.take 3 (.take 4 (.take 5 (.alt 7 (.take 8 (.done)) .no)))) .no) .no) (.no))))] := rfl
@[go_sem] theorem cx_gfpow_Pow_ob : cx_gfpow_Pow.ob = [3,5,9] := rfl
theorem cok_gfpow_Pow : COk Try.prog (cx_gfpow_Pow) := cok_of rfl (.cons ok_gfdiv_MulMod (.cons ok_gfp_X (.cons ok_gfdiv_Mod (.cons ok_gfpow_bits (.cons ok_gfpow_square (.nil)))))) (.cons (fun _ => fn3i_quiet) (.cons (fun _ => fn1_quiet) (.cons (fun _ => fn2i_quiet) (.cons (fun _ => quiet_gfpow_bits) (.cons (fun _ => fn2_quiet) (.nil)))))) (.cons okR_gfpow_bits_1 (.nil))
set_option maxHeartbeats 4000000 in
theorem ok_gfpow_Pow : Ok Try.prog 15 c_gfpow_Pow := by
  refine ok_fn3i cok_gfpow_Pow mixed Try.func15 rfl (by kernel_rfl) (by kernel_rfl) rfl ?_
  intro xs n ps om hw ⟨hl, hl'⟩
  have hx := (wf_u ⟨hw.1, trivial⟩).2
  have hy := (wf_u ⟨hw.2.2.1, trivial⟩).2
  have hn := wf_w hw.2
  have b1 := bl_pv hx
  have b2 := bl_pv hy
  by_cases hp : pv ps = 0
  · simp (config := {contextual := true}) only [go_sem, Try.f15, Nat.reduceEqDiff, Nat.reduceBEq, Int.reduceToNat, Nat.reducePow, Nat.reduceMod, Nat.reduceAdd, Nat.reduceSub, Nat.reduceMul, Nat.reduceDiv, Nat.reduceLeDiff, Int.reduceAdd, Int.reduceSub, Int.reduceMul, Int.reduceDiv, Int.reduceMod, Int.reduceLE, Int.reduceLT, Int.reduceNeg, Int.reduceEq, Int.cast_ofNat_Int, Int.natCast_zero, List.contains_cons, List.contains_nil, Bool.or_false, Bool.or_true, Bool.true_or, reduceCtorEq, or_false, or_true, false_or, true_or, and_false, false_and, ne_eq, List.take_zero, List.take_succ_cons, List.take_nil, List.drop_zero, List.drop_succ_cons, List.drop_nil, decide_true, decide_false, c_gfdiv_MulMod, c_gfp_X, c_gfdiv_Mod, c_gfpow_bits, c_gfpow_square, hp, new_iff, and_imp]
    intro i0 h0 i1 h1 h2 h3
    refine ⟨by omega, ?_⟩
    exact .put h0 (.put h3 (.put h0 (.refl _)))
  · have p1 := rm_lt (pv xs) hp
    have p2 := rm_lt 1 hp
    have hb1 : bl 1 = 1 := rfl
    have g1 : ((bl (rm (pv xs) (pv ps)) + 63) / 64 ≤ 9223372036854775807) = True := eq_true (by omega)
    have g2 : ((bl 1 + 63) / 64 ≤ 9223372036854775807) = True := eq_true (by omega)
    have g3 : ((bl (rm 1 (pv ps)) + 63) / 64 ≤ 9223372036854775807) = True := eq_true (by omega)
    simp (config := {contextual := true}) only [go_sem, Try.f15, Nat.reduceEqDiff, Nat.reduceBEq, Int.reduceToNat, Nat.reducePow, Nat.reduceMod, Nat.reduceAdd, Nat.reduceSub, Nat.reduceMul, Nat.reduceDiv, Nat.reduceLeDiff, Int.reduceAdd, Int.reduceSub, Int.reduceMul, Int.reduceDiv, Int.reduceMod, Int.reduceLE, Int.reduceLT, Int.reduceNeg, Int.reduceEq, Int.cast_ofNat_Int, Int.natCast_zero, List.contains_cons, List.contains_nil, Bool.or_false, Bool.or_true, Bool.true_or, reduceCtorEq, or_false, or_true, false_or, true_or, and_false, false_and, ne_eq, List.take_zero, List.take_succ_cons, List.take_nil, List.drop_zero, List.drop_succ_cons, List.drop_nil, decide_true, decide_false, c_gfdiv_MulMod, c_gfp_X, c_gfdiv_Mod, c_gfpow_bits, c_gfpow_square, hp, new_iff, and_imp, upP_zero, g1, g2, g3]
    intro i0 h0 i1 h1 h2 h3
    refine ⟨by omega, ?_⟩
    repeat' (first | with_reducible refine And.intro ?_ ?_ | with_reducible intro _)
    all_goals first | omega | skip
    all_goals
      rename_i i2 k0 k1 k2 k3 k4 i3 m0 m1 m2 m3 m4 m5 m6
      refine rangeR_intro (rc := rc_gfpow_bits_1) rfl rfl (powCy (pv xs) ps i0 i2 i1) (fun args om K ha hc => ?_) (powCy_mono _ _ _ _ _) ?_
    all_goals first
      | (
          obtain ⟨b, rfl, c0, c1, c2, r, c3, c4, c5⟩ := powCy_inv hc
          have g4 : ((bl (rm (cm r r) (pv ps)) + 63) / 64 ≤ 9223372036854775807) = True := eq_true (by have := rm_lt (cm r r) hp; omega)
          have g5 := rm_lt (cm r r) hp
          rcases c0 with rfl | rfl
          · simp only [go_sem, Try.f15, Nat.reduceEqDiff, Nat.reduceBEq, Int.reduceToNat, Nat.reducePow, Nat.reduceMod, Nat.reduceAdd, Nat.reduceSub, Nat.reduceMul, Nat.reduceDiv, Nat.reduceLeDiff, Int.reduceAdd, Int.reduceSub, Int.reduceMul, Int.reduceDiv, Int.reduceMod, Int.reduceLE, Int.reduceLT, Int.reduceNeg, Int.reduceEq, Int.cast_ofNat_Int, Int.natCast_zero, List.contains_cons, List.contains_nil, Bool.or_false, Bool.or_true, Bool.true_or, reduceCtorEq, or_false, or_true, false_or, true_or, and_false, false_and, ne_eq, List.take_zero, List.take_succ_cons, List.take_nil, List.drop_zero, List.drop_succ_cons, List.drop_nil, decide_true, decide_false, c_gfdiv_MulMod, c_gfp_X, c_gfdiv_Mod, c_gfpow_bits, c_gfpow_square, hp, c1, c2, c4, g4, k0, k1, k2, k3, h1, h2]
            exact ⟨by omega, _, .refl _, c5⟩
          · simp only [go_sem, Try.f15, Nat.reduceEqDiff, Nat.reduceBEq, Int.reduceToNat, Nat.reducePow, Nat.reduceMod, Nat.reduceAdd, Nat.reduceSub, Nat.reduceMul, Nat.reduceDiv, Nat.reduceLeDiff, Int.reduceAdd, Int.reduceSub, Int.reduceMul, Int.reduceDiv, Int.reduceMod, Int.reduceLE, Int.reduceLT, Int.reduceNeg, Int.reduceEq, Int.cast_ofNat_Int, Int.natCast_zero, List.contains_cons, List.contains_nil, Bool.or_false, Bool.or_true, Bool.true_or, reduceCtorEq, or_false, or_true, false_or, true_or, and_false, false_and, ne_eq, List.take_zero, List.take_succ_cons, List.take_nil, List.drop_zero, List.drop_succ_cons, List.drop_nil, decide_true, decide_false, c_gfdiv_MulMod, c_gfp_X, c_gfdiv_Mod, c_gfpow_bits, c_gfpow_square, hp, c1, c2, c4, g4, k0, k1, k2, k3, h1, h2]
            exact ⟨by omega, by omega, fun _ => ⟨_, .refl _, c5⟩⟩)
      | (
          simp only [go_sem, Try.f15, Nat.reduceEqDiff, Nat.reduceBEq, Int.reduceToNat, Nat.reducePow, Nat.reduceMod, Nat.reduceAdd, Nat.reduceSub, Nat.reduceMul, Nat.reduceDiv, Nat.reduceLeDiff, Int.reduceAdd, Int.reduceSub, Int.reduceMul, Int.reduceDiv, Int.reduceMod, Int.reduceLE, Int.reduceLT, Int.reduceNeg, Int.reduceEq, Int.cast_ofNat_Int, Int.natCast_zero, List.contains_cons, List.contains_nil, Bool.or_false, Bool.or_true, Bool.true_or, reduceCtorEq, or_false, or_true, false_or, true_or, and_false, false_and, ne_eq, List.take_zero, List.take_succ_cons, List.take_nil, List.drop_zero, List.drop_succ_cons, List.drop_nil, decide_true, decide_false, c_gfdiv_MulMod, c_gfp_X, c_gfdiv_Mod, c_gfpow_bits, c_gfpow_square, rc_gfpow_bits_1.eq_1, m0, m1, m2, m3, m4, m5, m6]
          refine ⟨hn, ?_⟩
          have z : n >>> bl n = 0 := by rw [Nat.shiftRight_eq_div_pow]; exact Nat.div_eq_of_lt (bl_lt.1 (Nat.le_refl _))
          have e := fun (X : Om) (K : V → Om → Prop) (h1 : X i0 = some [vP (rm (pv xs) (pv ps))]) (h2 : X i1 = some [.sl (els (V.n .u64) ps)]) (h3 : X i3 = some [V.n IntKind.u64 (n / 18446744073709551616), V.n IntKind.u64 (n % 18446744073709551616)]) (h4 : X i2 = some [vP (rm 1 (pv ps))]) (hK : K (.tup []) (X.put i2 [vP (pwr (pv xs) (pv ps) n)])) =>
            (goB_pow (a := pv xs) (ps := ps) (ia := i0) (io := i2) (ip := i1) (id := i3) (n := n) (K := K) hp k1 k3 m0 h1 h2 h3 hK (bl n))
          rw [z] at e
          have e' := fun X K h1 h2 h3 h4 hK => (put_same h4) ▸ e X K h1 h2 h3 h4 hK
          refine e' _ _ ?_ ?_ ?_ ?_ ?_
          · simp only [go_sem, Nat.reduceEqDiff, Nat.reduceBEq, Int.reduceToNat, Nat.reducePow, Nat.reduceMod, Nat.reduceAdd, Nat.reduceSub, Nat.reduceMul, Nat.reduceDiv, Nat.reduceLeDiff, Int.reduceAdd, Int.reduceSub, Int.reduceMul, Int.reduceDiv, Int.reduceMod, Int.reduceLE, Int.reduceLT, Int.reduceNeg, Int.reduceEq, Int.cast_ofNat_Int, Int.natCast_zero, List.contains_cons, List.contains_nil, Bool.or_false, Bool.or_true, Bool.true_or, reduceCtorEq, or_false, or_true, false_or, true_or, and_false, false_and, ne_eq, List.take_zero, List.take_succ_cons, List.take_nil, List.drop_zero, List.drop_succ_cons, List.drop_nil, decide_true, decide_false, c_gfdiv_MulMod, c_gfp_X, c_gfdiv_Mod, c_gfpow_bits, c_gfpow_square, k0, k1, k2, k3, k4, m0, m1, m2, m3, m4, m5, h1, h2]
          · simp only [go_sem, Nat.reduceEqDiff, Nat.reduceBEq, Int.reduceToNat, Nat.reducePow, Nat.reduceMod, Nat.reduceAdd, Nat.reduceSub, Nat.reduceMul, Nat.reduceDiv, Nat.reduceLeDiff, Int.reduceAdd, Int.reduceSub, Int.reduceMul, Int.reduceDiv, Int.reduceMod, Int.reduceLE, Int.reduceLT, Int.reduceNeg, Int.reduceEq, Int.cast_ofNat_Int, Int.natCast_zero, List.contains_cons, List.contains_nil, Bool.or_false, Bool.or_true, Bool.true_or, reduceCtorEq, or_false, or_true, false_or, true_or, and_false, false_and, ne_eq, List.take_zero, List.take_succ_cons, List.take_nil, List.drop_zero, List.drop_succ_cons, List.drop_nil, decide_true, decide_false, c_gfdiv_MulMod, c_gfp_X, c_gfdiv_Mod, c_gfpow_bits, c_gfpow_square, k0, k1, k2, k3, k4, m0, m1, m2, m3, m4, m5, h1, h2]
          · simp only [go_sem, Nat.reduceEqDiff, Nat.reduceBEq, Int.reduceToNat, Nat.reducePow, Nat.reduceMod, Nat.reduceAdd, Nat.reduceSub, Nat.reduceMul, Nat.reduceDiv, Nat.reduceLeDiff, Int.reduceAdd, Int.reduceSub, Int.reduceMul, Int.reduceDiv, Int.reduceMod, Int.reduceLE, Int.reduceLT, Int.reduceNeg, Int.reduceEq, Int.cast_ofNat_Int, Int.natCast_zero, List.contains_cons, List.contains_nil, Bool.or_false, Bool.or_true, Bool.true_or, reduceCtorEq, or_false, or_true, false_or, true_or, and_false, false_and, ne_eq, List.take_zero, List.take_succ_cons, List.take_nil, List.drop_zero, List.drop_succ_cons, List.drop_nil, decide_true, decide_false, c_gfdiv_MulMod, c_gfp_X, c_gfdiv_Mod, c_gfpow_bits, c_gfpow_square, k0, k1, k2, k3, k4, m0, m1, m2, m3, m4, m5, h1, h2]
          · simp only [go_sem, Nat.reduceEqDiff, Nat.reduceBEq, Int.reduceToNat, Nat.reducePow, Nat.reduceMod, Nat.reduceAdd, Nat.reduceSub, Nat.reduceMul, Nat.reduceDiv, Nat.reduceLeDiff, Int.reduceAdd, Int.reduceSub, Int.reduceMul, Int.reduceDiv, Int.reduceMod, Int.reduceLE, Int.reduceLT, Int.reduceNeg, Int.reduceEq, Int.cast_ofNat_Int, Int.natCast_zero, List.contains_cons, List.contains_nil, Bool.or_false, Bool.or_true, Bool.true_or, reduceCtorEq, or_false, or_true, false_or, true_or, and_false, false_and, ne_eq, List.take_zero, List.take_succ_cons, List.take_nil, List.drop_zero, List.drop_succ_cons, List.drop_nil, decide_true, decide_false, c_gfdiv_MulMod, c_gfp_X, c_gfdiv_Mod, c_gfpow_bits, c_gfpow_square, k0, k1, k2, k3, k4, m0, m1, m2, m3, m4, m5, h1, h2]
          · simp only [go_sem, Nat.reduceEqDiff, Nat.reduceBEq, Int.reduceToNat, Nat.reducePow, Nat.reduceMod, Nat.reduceAdd, Nat.reduceSub, Nat.reduceMul, Nat.reduceDiv, Nat.reduceLeDiff, Int.reduceAdd, Int.reduceSub, Int.reduceMul, Int.reduceDiv, Int.reduceMod, Int.reduceLE, Int.reduceLT, Int.reduceNeg, Int.reduceEq, Int.cast_ofNat_Int, Int.natCast_zero, List.contains_cons, List.contains_nil, Bool.or_false, Bool.or_true, Bool.true_or, reduceCtorEq, or_false, or_true, false_or, true_or, and_false, false_and, ne_eq, List.take_zero, List.take_succ_cons, List.take_nil, List.drop_zero, List.drop_succ_cons, List.drop_nil, decide_true, decide_false, c_gfdiv_MulMod, c_gfp_X, c_gfdiv_Mod, c_gfpow_bits, c_gfpow_square, k0, k1, k2, k3, k4, m0, m1, m2, m3, m4, m5, h1, h2]
            exact .put k4 (.put m6 (.put k4 (.put h0 (.put h3 (.put h0 (.refl _)))))))
end Go.Proofs.Ytaojebdjkpdcdaa.I
