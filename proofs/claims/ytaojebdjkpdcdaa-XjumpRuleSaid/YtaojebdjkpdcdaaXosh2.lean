/- xosh: steps, Bits; 07: Jump. -/
import Derived.Test.YtaojebdjkpdcdaaXosh1
import Derived.Test.YtaojebdjkpdcdaaRef4
namespace Go.Proofs.Ytaojebdjkpdcdaa.I
open Go
set_option maxRecDepth 10000
set_option linter.unusedSimpArgs false
set_option linter.unusedVariables false

def cX (s : X4) : List V := [.n .u64 s.a, .n .u64 s.b, .n .u64 s.c, .n .u64 s.d]
@[go_sem] theorem cX_eq (s : X4) : cX s = [.n .u64 s.a, .n .u64 s.b, .n .u64 s.c, .n .u64 s.d] := rfl

noncomputable def c_xosh_steps_1 : Cn
  | [.obj j 0], om, K => @so _ (om j) ⟨fun cs => match cs with
    | [.obj id 0] => @so _ (om id) ⟨fun ds => @so _ (tX.dec (.agg ds)) ⟨fun s => s.wf ∧ K.k (vX s) (om.put id (cX (xstep s)))⟩⟩
    | _ => False⟩
  | _, _, _ => False
attribute [go_sem] c_xosh_steps_1.eq_1
theorem steps_1_inv {j : Nat} {om : Om} {K : V → Om → Prop} (h : @c_xosh_steps_1 [.obj j 0] om ⟨K⟩) : ∃ id s, om j = some [.obj id 0] ∧ om id = some (cX s) ∧ s.wf ∧ K (vX s) (om.put id (cX (xstep s))) := by
  unfold c_xosh_steps_1 at h
  obtain ⟨cs, h1, h⟩ := so_inv h
  split at h <;> first | exact h.elim | skip
  obtain ⟨ds, h2, h⟩ := so_inv h
  obtain ⟨s, h3, h4, h5⟩ := so_inv h
  have e := tX.h2 _ _ h3
  rw [tX_enc] at e
  injection e with e
  subst e
  exact ⟨_, s, h1, h2, h4, h5⟩
theorem c_xosh_steps_1_mono : Mono c_xosh_steps_1 := by
  intro args om K K' hK h
  unfold c_xosh_steps_1 at h ⊢
  split at h
  · refine mono_so (fun cs h => ?_) h
    split at h
    · exact mono_so (fun ds h => mono_so (fun s h => ⟨h.1, hK _ _ h.2⟩) h) h
    · exact h.elim
  · exact h.elim
noncomputable def cx_xosh_steps_1 : Cx := { T := T, E := E, cs := [(68, c_xosh_Step)], sch := [(2, false, .take 0 (.take 1 (.alt 2 (.take 3 (.alt 4 (.done) .no)) .no)))], ob := [], qs := [68] }
@[go_sem] theorem cx_xosh_steps_1_md : cx_xosh_steps_1.md = 0 := rfl
@[go_sem] theorem cx_xosh_steps_1_T : cx_xosh_steps_1.T = T := rfl
@[go_sem] theorem cx_xosh_steps_1_E : cx_xosh_steps_1.E = E := rfl
@[go_sem] theorem cx_xosh_steps_1_cs : cx_xosh_steps_1.cs = [(68, c_xosh_Step)] := rfl
@[go_sem] theorem cx_xosh_steps_1_sch : cx_xosh_steps_1.sch = [(2, false, .take 0 (.take 1 (.alt 2 (.take 3 (.alt 4 (.done) .no)) .no)))] := rfl
@[go_sem] theorem cx_xosh_steps_1_ob (d : Nat) : (cx_xosh_steps_1.ob).contains d = false := rfl
theorem cok_xosh_steps_1 : COk Try.prog (cx_xosh_steps_1) := cok_of rfl (.cons ok_xosh_Step (.nil)) (.cons (fun _ => fn1_quiet) (.nil)) (.nil)
theorem ok_xosh_steps_1 : Ok Try.prog 93 c_xosh_steps_1 := by
  refine ok_of_body1 cok_xosh_steps_1 mixed Try.func93 rfl (by kernel_rfl) (by kernel_rfl) c_xosh_steps_1_mono fun args om Q hw h => ?_
  have sh : ∃ j, args = [.obj j 0] := by
    unfold c_xosh_steps_1 at h
    split at h
    · exact ⟨_, rfl⟩
    · exact h.elim
  obtain ⟨j, rfl⟩ := sh
  obtain ⟨id, s, h1, h2, h3, h4⟩ := steps_1_inv h
  simp only [go_sem, Try.f93, Nat.reduceEqDiff, Nat.reduceBEq, Int.reduceToNat, Nat.reducePow, Nat.reduceMod, Nat.reduceAdd, Nat.reduceSub, Nat.reduceMul, Nat.reduceDiv, Nat.reduceLeDiff, Int.reduceAdd, Int.reduceSub, Int.reduceMul, Int.reduceDiv, Int.reduceMod, Int.reduceLE, Int.reduceLT, Int.reduceNeg, Int.reduceEq, Int.cast_ofNat_Int, Int.natCast_zero, List.contains_cons, List.contains_nil, Bool.or_false, Bool.or_true, Bool.true_or, reduceCtorEq, or_false, or_true, false_or, true_or, and_false, false_and, ne_eq, List.take_zero, List.take_succ_cons, List.take_nil, List.drop_zero, List.drop_succ_cons, List.drop_nil, decide_true, decide_false, c_xosh_Step, h1, h2]
  exact ⟨by omega, by omega, fun _ => ⟨by omega, by omega, by omega, h4⟩⟩

noncomputable def c_xosh_steps : Cn
  | [.obj id 0], om, K => ∀ j, om j = none → K.k (.fn (.func 93) [] [.obj j 0]) (om.put j [.obj id 0])
  | _, _, _ => False
attribute [go_sem] c_xosh_steps.eq_1
theorem c_xosh_steps_mono : Mono c_xosh_steps := by
  intro args om K K' hK h
  unfold c_xosh_steps at h ⊢
  split at h
  · exact fun j hj => hK _ _ (h j hj)
  · exact h.elim
theorem quiet_xosh_steps : Quiet c_xosh_steps := by
  intro args om K h
  unfold c_xosh_steps at h ⊢
  split at h
  · exact fun j hj => ⟨.put hj (.refl _), h j hj⟩
  · exact h.elim
noncomputable def cx_xosh_steps : Cx := { T := T, E := E, cs := [], sch := [], ob := [1], qs := [] }
@[go_sem] theorem cx_xosh_steps_md : cx_xosh_steps.md = 0 := rfl
@[go_sem] theorem cx_xosh_steps_T : cx_xosh_steps.T = T := rfl
@[go_sem] theorem cx_xosh_steps_E : cx_xosh_steps.E = E := rfl
@[go_sem] theorem cx_xosh_steps_cs : cx_xosh_steps.cs = [] := rfl
@[go_sem] theorem cx_xosh_steps_ob : cx_xosh_steps.ob = [1] := rfl
theorem cok_xosh_steps : COk Try.prog (cx_xosh_steps) := cok_of rfl (.nil) (.nil) (.nil)
theorem ok_xosh_steps : Ok Try.prog 88 c_xosh_steps := by
  refine ok_of_body1 cok_xosh_steps mixed Try.func88 rfl (by kernel_rfl) (by kernel_rfl) c_xosh_steps_mono fun args om Q hw h => ?_
  unfold c_xosh_steps at h
  split at h <;> first | exact h.elim | skip
  rename_i om _ _ _ id
  simp only [go_sem, Try.f88, Nat.reduceEqDiff, Nat.reduceBEq, Int.reduceToNat, Nat.reducePow, Nat.reduceMod, Nat.reduceAdd, Nat.reduceSub, Nat.reduceMul, Nat.reduceDiv, Nat.reduceLeDiff, Int.reduceAdd, Int.reduceSub, Int.reduceMul, Int.reduceDiv, Int.reduceMod, Int.reduceLE, Int.reduceLT, Int.reduceNeg, Int.reduceEq, Int.cast_ofNat_Int, Int.natCast_zero, List.contains_cons, List.contains_nil, Bool.or_false, Bool.or_true, Bool.true_or, reduceCtorEq, or_false, or_true, false_or, true_or, and_false, false_and, ne_eq, List.take_zero, List.take_succ_cons, List.take_nil, List.drop_zero, List.drop_succ_cons, List.drop_nil, decide_true, decide_false]
  exact h

/-- The state so many steps on. -/
def xst (s : X4) : Nat → X4
  | 0 => s
  | n + 1 => xstep (xst s n)
noncomputable def c_ref07_Jump : Cn := fn2 tX tZ (fun _ _ => True) fun s n => vX (xst s n.toNat)
noncomputable def cx_ref07_Jump : Cx := { T := T, E := E, cs := [(72, c_ref07_Step)], sch := [], ob := [], qs := [72] }
@[go_sem] theorem cx_ref07_Jump_md : cx_ref07_Jump.md = 0 := rfl
@[go_sem] theorem cx_ref07_Jump_T : cx_ref07_Jump.T = T := rfl
@[go_sem] theorem cx_ref07_Jump_E : cx_ref07_Jump.E = E := rfl
@[go_sem] theorem cx_ref07_Jump_cs : cx_ref07_Jump.cs = [(72, c_ref07_Step)] := rfl
@[go_sem] theorem cx_ref07_Jump_ob (d : Nat) : (cx_ref07_Jump.ob).contains d = false := rfl
theorem cok_ref07_Jump : COk Try.prog (cx_ref07_Jump) := cok_of rfl (.cons ok_ref07_Step (.nil)) (.cons (fun _ => fn1_quiet) (.nil)) (.nil)
theorem ok_ref07_Jump : Ok Try.prog 47 c_ref07_Jump := by
  refine ok_fn2 cok_ref07_Jump mixed Try.func47 rfl (by kernel_rfl) (by kernel_rfl) rfl ?_
  intro s n om hw _
  have hn : i64ok n := hw.2.1
  unfold i64ok at hn
  simp only [go_sem, Try.f47, Nat.reduceEqDiff, Nat.reduceBEq, Int.reduceToNat, Nat.reducePow, Nat.reduceMod, Nat.reduceAdd, Nat.reduceSub, Nat.reduceMul, Nat.reduceDiv, Nat.reduceLeDiff, Int.reduceAdd, Int.reduceSub, Int.reduceMul, Int.reduceDiv, Int.reduceMod, Int.reduceLE, Int.reduceLT, Int.reduceNeg, Int.reduceEq, Int.cast_ofNat_Int, Int.natCast_zero, List.contains_cons, List.contains_nil, Bool.or_false, Bool.or_true, Bool.true_or, reduceCtorEq, or_false, or_true, false_or, true_or, and_false, false_and, ne_eq, List.take_zero, List.take_succ_cons, List.take_nil, List.drop_zero, List.drop_succ_cons, List.drop_nil, decide_true, decide_false, c_ref07_Step]
  refine ⟨Nat, fun k => ⟨[.u, .z n, .ref 2 1 4 0 0, .u, .ref 4 1 4 0 0, .z k, .u, .u, .u, .u, .u, .u, .u, .u], [(4, ⟨4, true, [vX x0], false⟩), (2, ⟨4, true, [vX (xst s k)], false⟩)], om⟩, fun k => k ≤ n.toNat, fun k => n.toNat - k, ⟨0, by omega, ?_⟩, ?_⟩
  · simp only [go_sem, Nat.reduceEqDiff, Nat.reduceBEq, Int.reduceToNat, Nat.reducePow, Nat.reduceMod, Nat.reduceAdd, Nat.reduceSub, Nat.reduceMul, Nat.reduceDiv, Nat.reduceLeDiff, Int.reduceAdd, Int.reduceSub, Int.reduceMul, Int.reduceDiv, Int.reduceMod, Int.reduceLE, Int.reduceLT, Int.reduceNeg, Int.reduceEq, Int.cast_ofNat_Int, Int.natCast_zero, List.contains_cons, List.contains_nil, Bool.or_false, Bool.or_true, Bool.true_or, reduceCtorEq, or_false, or_true, false_or, true_or, and_false, false_and, ne_eq, List.take_zero, List.take_succ_cons, List.take_nil, List.drop_zero, List.drop_succ_cons, List.drop_nil, decide_true, decide_false, c_ref07_Step, xst, x0]
  · intro k hk
    simp only [go_sem, Nat.reduceEqDiff, Nat.reduceBEq, Int.reduceToNat, Nat.reducePow, Nat.reduceMod, Nat.reduceAdd, Nat.reduceSub, Nat.reduceMul, Nat.reduceDiv, Nat.reduceLeDiff, Int.reduceAdd, Int.reduceSub, Int.reduceMul, Int.reduceDiv, Int.reduceMod, Int.reduceLE, Int.reduceLT, Int.reduceNeg, Int.reduceEq, Int.cast_ofNat_Int, Int.natCast_zero, List.contains_cons, List.contains_nil, Bool.or_false, Bool.or_true, Bool.true_or, reduceCtorEq, or_false, or_true, false_or, true_or, and_false, false_and, ne_eq, List.take_zero, List.take_succ_cons, List.take_nil, List.drop_zero, List.drop_succ_cons, List.drop_nil, decide_true, decide_false, c_ref07_Step]
    refine ⟨fun h => ⟨by omega, fun _ => ⟨by omega, by omega, k + 1, by omega, ⟨by omega, rfl, rfl, rfl, rfl⟩, by omega⟩⟩, fun h => ?_⟩
    rw [show k = n.toNat by omega]
    exact ⟨by omega, by omega, by omega, rfl, rfl, rfl, rfl⟩
theorem xst_wf {s : X4} (h : s.wf) : ∀ n, (xst s n).wf
  | 0 => h
  | n + 1 => xstep_wf (xst_wf h n)

/-- The lowest bits of so many states. -/
def xbits (s : X4) : Nat → List Bool
  | 0 => []
  | n + 1 => xbits s n ++ [decide ((xst s n).a &&& 1 = 1)]
theorem xbits_len (s : X4) : ∀ n, (xbits s n).length = n
  | 0 => rfl
  | n + 1 => by rw [xbits, List.length_append, xbits_len s n]; rfl
theorem om_swap (om : Om) {i j : Nat} (h : ¬ j = i) (a b c : List V) : ((om.put i a).put j b).put i c = (om.put i c).put j b := by
  funext k; simp only [Om.put]
  by_cases e1 : k = j
  · subst e1; simp [h]
  · by_cases e2 : k = i
    · subst e2; simp [e1]
    · simp [e1, e2]
noncomputable def c_xosh_Bits : Cn := fn2i tX tZ (fun _ _ => True) (fun _ n => n < 0 ∨ 2048 < n) (fun _ _ => .tup [.sl [], .z 1]) fun s n => .tup [.sl (els V.b (xbits s n.toNat)), .z 0]
noncomputable def cx_xosh_Bits : Cx := { T := T, E := E, cs := [(88, c_xosh_steps), (93, c_xosh_steps_1)], sch := [], ob := [2], qs := [88] }
@[go_sem] theorem cx_xosh_Bits_md : cx_xosh_Bits.md = 0 := rfl
@[go_sem] theorem cx_xosh_Bits_T : cx_xosh_Bits.T = T := rfl
@[go_sem] theorem cx_xosh_Bits_E : cx_xosh_Bits.E = E := rfl
@[go_sem] theorem cx_xosh_Bits_cs : cx_xosh_Bits.cs = [(88, c_xosh_steps), (93, c_xosh_steps_1)] := rfl
@[go_sem] theorem cx_xosh_Bits_ob : cx_xosh_Bits.ob = [2] := rfl
theorem cok_xosh_Bits : COk Try.prog (cx_xosh_Bits) := cok_of rfl (.cons ok_xosh_steps (.cons ok_xosh_steps_1 (.nil))) (.cons (fun _ => quiet_xosh_steps) (.cons (fun h => absurd h (by decide)) (.nil))) (.nil)
set_option maxHeartbeats 2000000 in
theorem ok_xosh_Bits : Ok Try.prog 76 c_xosh_Bits := by
  refine ok_fn2i cok_xosh_Bits mixed Try.func76 rfl (by kernel_rfl) (by kernel_rfl) rfl ?_
  intro s n om hw _
  have hn : i64ok n := hw.2.1
  unfold i64ok at hn
  have hs := wf_x hw
  simp (config := {contextual := true}) only [go_sem, Try.f76, Nat.reduceEqDiff, Nat.reduceBEq, Int.reduceToNat, Nat.reducePow, Nat.reduceMod, Nat.reduceAdd, Nat.reduceSub, Nat.reduceMul, Nat.reduceDiv, Nat.reduceLeDiff, Int.reduceAdd, Int.reduceSub, Int.reduceMul, Int.reduceDiv, Int.reduceMod, Int.reduceLE, Int.reduceLT, Int.reduceNeg, Int.reduceEq, Int.cast_ofNat_Int, Int.natCast_zero, List.contains_cons, List.contains_nil, Bool.or_false, Bool.or_true, Bool.true_or, reduceCtorEq, or_false, or_true, false_or, true_or, and_false, false_and, ne_eq, List.take_zero, List.take_succ_cons, List.take_nil, List.drop_zero, List.drop_succ_cons, List.drop_nil, decide_true, decide_false, c_xosh_steps, new_iff, and_imp]
  intro id hid
  refine ⟨fun h => ?_, fun h => ⟨fun h' => ?_, fun h' j hj1 hj2 hj => ?_⟩⟩
  · exact .put hid (.refl _)
  · exact .put hid (.refl _)
  refine ⟨Nat, fun k => ⟨[.u, .u, .u, .u, .nils, .z 0, .row 25 k k, .fn (.func 93) [] [.obj j 0], .u, .u, .u, .u, .u, .u, .u, .z n, .z k, .u, .u, .u, .u, .u, .u, .u, .u, .u, .u, .u], [(25, ⟨1, false, els V.b (xbits s k), false⟩)], (om.put id (cX (xst s k))).put j [.obj id 0]⟩, fun k => k ≤ n.toNat, fun k => n.toNat - k, ⟨0, by omega, ?_⟩, ?_⟩
  · simp only [go_sem, Nat.reduceEqDiff, Nat.reduceBEq, Int.reduceToNat, Nat.reducePow, Nat.reduceMod, Nat.reduceAdd, Nat.reduceSub, Nat.reduceMul, Nat.reduceDiv, Nat.reduceLeDiff, Int.reduceAdd, Int.reduceSub, Int.reduceMul, Int.reduceDiv, Int.reduceMod, Int.reduceLE, Int.reduceLT, Int.reduceNeg, Int.reduceEq, Int.cast_ofNat_Int, Int.natCast_zero, List.contains_cons, List.contains_nil, Bool.or_false, Bool.or_true, Bool.true_or, reduceCtorEq, or_false, or_true, false_or, true_or, and_false, false_and, ne_eq, List.take_zero, List.take_succ_cons, List.take_nil, List.drop_zero, List.drop_succ_cons, List.drop_nil, decide_true, decide_false, c_xosh_steps, xst, xbits]
  · intro k hk
    have hl := xbits_len s k
    have hk' : k ≤ 2048 := by omega
    simp only [go_sem, Nat.reduceEqDiff, Nat.reduceBEq, Int.reduceToNat, Nat.reducePow, Nat.reduceMod, Nat.reduceAdd, Nat.reduceSub, Nat.reduceMul, Nat.reduceDiv, Nat.reduceLeDiff, Int.reduceAdd, Int.reduceSub, Int.reduceMul, Int.reduceDiv, Int.reduceMod, Int.reduceLE, Int.reduceLT, Int.reduceNeg, Int.reduceEq, Int.cast_ofNat_Int, Int.natCast_zero, List.contains_cons, List.contains_nil, Bool.or_false, Bool.or_true, Bool.true_or, reduceCtorEq, or_false, or_true, false_or, true_or, and_false, false_and, ne_eq, List.take_zero, List.take_succ_cons, List.take_nil, List.drop_zero, List.drop_succ_cons, List.drop_nil, decide_true, decide_false, c_xosh_steps, c_xosh_steps_1.eq_1, hj1, hj2]
    refine ⟨fun g => ⟨xst_wf hs k, fun _ => ⟨by omega, by omega, by omega, k + 1, by omega, ⟨⟨rfl, by omega⟩, rfl, ?_⟩, by omega⟩⟩, fun g => ⟨hl, .put hj (.put hid (.refl _)), ?_⟩⟩
    · rw [om_swap _ hj1]; exact .refl _
    · rw [List.take_of_length_le (by omega), show k = n.toNat by omega, if_neg (by omega)]
end Go.Proofs.Ytaojebdjkpdcdaa.I
