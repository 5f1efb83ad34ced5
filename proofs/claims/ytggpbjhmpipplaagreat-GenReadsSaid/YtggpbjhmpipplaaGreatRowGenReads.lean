/- GenReads: whatever the input, true; no condition. Printed by a program of mine. -/
import Derived.Test.YtggpbjhmpipplaaGreatLawG
import Derived.Test.YtggpbjhmpipplaaGreatLaw13d
import Derived.Test.YtggpbjhmpipplaaGreatLawS
namespace Go.Proofs.YtggpbjhmpipplaaGreat.genReads
open Go.ChangeShapes Go.WideShapes Go.ChangeAt Go.RowKit Go.Proofs.YtggpbjhmpipplaaGreat.I
set_option linter.unusedVariables false
set_option linter.unusedSimpArgs false
theorem own : ownKnob Tryz.prog.godebug = none := by kernel_rfl
theorem laidOut : laidOutB Tryz.prog = true := by kernel_rfl
set_option maxRecDepth 100000 in
theorem lifted (os : Os) (started : os.Started) (H : Type) (enc : TypeId × Value → H) :
    ReturnsInHanded {} Tryz.checked os 8 .any (Rows.genReadsSpec.pre6 enc Tryz.prog Tryz.f8 Rows.genReadsRow.domain false) (Rows.genReadsSpec.post enc Tryz.prog Tryz.f8 false true false false) := by
  refine returnsInHanded_of_change_sized (C := Tryz.checked) own started (by kernel_rfl) Tryz.func8
    (ChangeSpec.witness6 (enc := enc) (C := Tryz.checked) false ⟨#[], #[.slice none 0 0], []⟩ 8 (by kernel_rfl) (by kernel_rfl) (by kernel_rfl) (by kernel_rfl)) ?_
  intro W base args ds gs before hval0 hW hcnd hsz0 _
  have hval : ∀ (j : Nat) t v, Tryz.f8.params[j]? = some t → args[j]? = some v → Value.okWide Tryz.prog W .any base t v := hval0
  have hW' := hW
  obtain ⟨p, q, hA0, hV, rfl, hfz, hnd⟩ := hW
  have hA : DataW.TrodAll enc Tryz.prog W 0 (fun _ => true) true Tryz.f8.params.toList args.toList ds p := hA0
  rw [Tryz.params8] at hA hval
  obtain ⟨v0, vs0, d0, ds0, p0, q0, hargs, rfl, rfl, h0, r0⟩ := trodAll_cons hA
  obtain ⟨rfl, rfl, rfl⟩ := trodAll_nil r0
  obtain rfl : args = #[v0] := by cases args; simp_all
  obtain ⟨rfl, rfl⟩ := trodVars_none hV
  have lt0 : ∀ x ∈ p0, x.block < W.heap.size := by obtain ⟨m, hm⟩ := h0; exact DataW.trod_lt m _ _ _ hm
  obtain ⟨y0, s0, c0, f0, o0⟩ := open_any (n := 8) (sh := (.sl 1 false (.n .u8))) (by kernel_rfl) (hval 0 70 v0 rfl rfl) h0
  rw [show Tryz.prog.cellsOf 70 = 1 by kernel_rfl, show aggT Tryz.prog 70 = false by kernel_rfl] at f0
  obtain ⟨x0, rfl⟩ := (cov_sl (cov_n .u8)) y0 s0.wf f0 o0
  clear hA0 hval0 hsz0
  refine (law_of ok_law13_GenReads W (.cons s0 (.nil)) (by simp only [cleans, c0, Bool.and_self]) (by simp only [c_law13_GenReads, fn1.eq_1, fn2.eq_1, fn3.eq_1, fn4.eq_1, so.eq_def, Ty.h1, C_k, C2_k, and_true, and_self])).mono fun e W' ⟨he, bel⟩ => ?_
  subst he
  exact ⟨_, rfl, _, _, _, [], _, [], hW', trodAll_mk1 (shut_bool Tryz.underlying4 _), (trodAll_cons_mk (Below.trod laidOut (by kernel_rfl) (of_decide_eq_true (by kernel_rfl)) h0 bel lt0) trodAll_mk0), rfl, bel.frame _, fun h => by cases h⟩
theorem over : Rows.genReadsRow.holds Tryz.pinned (OpenSpec.ofChange Rows.genReadsSpec) :=
  OpenClaim.holds_of_wide 8 Tryz.f8 rfl rfl rfl rfl rfl rfl rfl ⟨rfl, rfl, rfl, rfl, rfl⟩ rfl rfl rfl rfl rfl (by kernel_rfl) Tryz.func8 (by kernel_rfl)
    (of_decide_eq_true (by kernel_rfl)) (by unfold Func.isWrapper; first | (rw [if_pos (by decide +kernel)]; kernel_rfl) | (rw [if_neg (by decide +kernel)]; exact ⟨rfl, rfl⟩))
    (fun os started H enc _ => lifted os started H enc)
end Go.Proofs.YtggpbjhmpipplaaGreat.genReads
namespace Go.Proofs.YtggpbjhmpipplaaGreat
/-- The row, under a short name, for the claim. -/
theorem genReads_holds : Rows.GenReadsSaid := genReads.over
#print axioms genReads_holds
end Go.Proofs.YtggpbjhmpipplaaGreat
