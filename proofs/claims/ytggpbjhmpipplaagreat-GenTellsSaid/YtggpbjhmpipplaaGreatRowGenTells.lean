/- GenTells: whatever the input, true; no condition. Printed by a program of mine. -/
import Derived.Test.YtggpbjhmpipplaaGreatLawG
import Derived.Test.YtggpbjhmpipplaaGreatLaw13c
import Derived.Test.YtggpbjhmpipplaaGreatLawS
namespace Go.Proofs.YtggpbjhmpipplaaGreat.genTells
open Go.ChangeShapes Go.WideShapes Go.ChangeAt Go.RowKit Go.Proofs.YtggpbjhmpipplaaGreat.I
set_option linter.unusedVariables false
set_option linter.unusedSimpArgs false
theorem own : ownKnob Tryz.prog.godebug = none := by kernel_rfl
theorem laidOut : laidOutB Tryz.prog = true := by kernel_rfl
set_option maxRecDepth 100000 in
theorem lifted (os : Os) (started : os.Started) (H : Type) (enc : TypeId × Value → H) :
    ReturnsInHanded {} Tryz.checked os 7 .any (Rows.genTellsSpec.pre6 enc Tryz.prog Tryz.f7 Rows.genTellsRow.domain false) (Rows.genTellsSpec.post enc Tryz.prog Tryz.f7 false true false false) := by
  refine returnsInHanded_of_change_sized (C := Tryz.checked) own started (by kernel_rfl) Tryz.func7
    (ChangeSpec.witness6 (enc := enc) (C := Tryz.checked) false ⟨#[], #[.agg #[.int .i64 0, .int .u64 0, .int .u64 0, .int .u64 0, .int .u64 0, .int .u64 0, .int .u64 0, .int .u64 0, .int .u64 0, .int .u64 0, .int .u64 0, .int .u64 0, .int .u32 0, .int .u32 0, .bool false], .int .i64 0], []⟩ 8 (by kernel_rfl) (by kernel_rfl) (by kernel_rfl) (by kernel_rfl)) ?_
  intro W base args ds gs before hval0 hW hcnd hsz0 _
  have hval : ∀ (j : Nat) t v, Tryz.f7.params[j]? = some t → args[j]? = some v → Value.okWide Tryz.prog W .any base t v := hval0
  have hW' := hW
  obtain ⟨p, q, hA0, hV, rfl, hfz, hnd⟩ := hW
  have hA : DataW.TrodAll enc Tryz.prog W 0 (fun _ => true) true Tryz.f7.params.toList args.toList ds p := hA0
  rw [Tryz.params7] at hA hval
  obtain ⟨v0, vs0, d0, ds0, p0, q0, hargs, rfl, rfl, h0, r0⟩ := trodAll_cons hA
  obtain ⟨v1, vs1, d1, ds1, p1, q1, rfl, rfl, rfl, h1, r1⟩ := trodAll_cons r0
  obtain ⟨rfl, rfl, rfl⟩ := trodAll_nil r1
  obtain rfl : args = #[v0, v1] := by cases args; simp_all
  obtain ⟨rfl, rfl⟩ := trodVars_none hV
  have lt0 : ∀ x ∈ p0, x.block < W.heap.size := by obtain ⟨m, hm⟩ := h0; exact DataW.trod_lt m _ _ _ hm
  obtain ⟨y0, s0, c0, f0, o0⟩ := open_any (n := 8) (sh := (.seq [.z, (.n .u64), (.seq [(.n .u64), (.n .u64), (.n .u64), (.n .u64)]), (.seq [(.seq [(.n .u64), (.n .u64)]), (.seq [(.n .u64), (.n .u64)])]), (.seq [(.seq [(.n .u64), (.n .u64)]), (.seq [(.n .u32), (.n .u32)]), .b])])) (by kernel_rfl) (hval 0 36 v0 rfl rfl) h0
  rw [show Tryz.prog.cellsOf 36 = 15 by kernel_rfl, show aggT Tryz.prog 36 = true by kernel_rfl] at f0
  obtain ⟨x0, rfl⟩ := cov_g y0 s0.wf f0 o0
  have lt1 : ∀ x ∈ p1, x.block < W.heap.size := by obtain ⟨m, hm⟩ := h1; exact DataW.trod_lt m _ _ _ hm
  obtain ⟨y1, s1, c1, f1, o1⟩ := open_any (n := 8) (sh := .z) (by kernel_rfl) (hval 1 3 v1 rfl rfl) h1
  rw [show Tryz.prog.cellsOf 3 = 1 by kernel_rfl, show aggT Tryz.prog 3 = false by kernel_rfl] at f1
  obtain ⟨x1, rfl⟩ := cov_z y1 s1.wf f1 o1
  clear hA0 hval0 hsz0
  refine (law_of ok_law13_GenTells W (.cons s0 (.cons s1 (.nil))) (by simp only [cleans, c0, c1, Bool.and_self]) (by simp only [c_law13_GenTells, fn1.eq_1, fn2.eq_1, fn3.eq_1, fn4.eq_1, so.eq_def, Ty.h1, C_k, C2_k, and_true, and_self])).mono fun e W' ⟨he, bel⟩ => ?_
  subst he
  exact ⟨_, rfl, _, _, _, [], _, [], hW', trodAll_mk1 (shut_bool Tryz.underlying4 _), (trodAll_cons_mk (Below.trod laidOut (by kernel_rfl) (of_decide_eq_true (by kernel_rfl)) h0 bel lt0) (trodAll_cons_mk (Below.trod laidOut (by kernel_rfl) (of_decide_eq_true (by kernel_rfl)) h1 bel lt1) trodAll_mk0)), rfl, bel.frame _, fun h => by cases h⟩
theorem over : Rows.genTellsRow.holds Tryz.pinned (OpenSpec.ofChange Rows.genTellsSpec) :=
  OpenClaim.holds_of_wide 7 Tryz.f7 rfl rfl rfl rfl rfl rfl rfl ⟨rfl, rfl, rfl, rfl, rfl⟩ rfl rfl rfl rfl rfl (by kernel_rfl) Tryz.func7 (by kernel_rfl)
    (of_decide_eq_true (by kernel_rfl)) (by unfold Func.isWrapper; first | (rw [if_pos (by decide +kernel)]; kernel_rfl) | (rw [if_neg (by decide +kernel)]; exact ⟨rfl, rfl⟩))
    (fun os started H enc _ => lifted os started H enc)
end Go.Proofs.YtggpbjhmpipplaaGreat.genTells
namespace Go.Proofs.YtggpbjhmpipplaaGreat
/-- The row, under a short name, for the claim. -/
theorem genTells_holds : Rows.GenTellsSaid := genTells.over
#print axioms genTells_holds
end Go.Proofs.YtggpbjhmpipplaaGreat
