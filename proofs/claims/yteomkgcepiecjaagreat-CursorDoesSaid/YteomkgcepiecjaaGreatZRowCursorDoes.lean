/- CursorDoes: whatever the input, true; no condition. Printed by a program of mine. -/
import Derived.Test.YteomkgcepiecjaaGreatZLawG
import Derived.Test.YteomkgcepiecjaaGreatZLaw16c
import Derived.Test.YteomkgcepiecjaaGreatZLawA
namespace Go.Proofs.YteomkgcepiecjaaGreat.cursorDoes
open Go.ChangeShapes Go.WideShapes Go.ChangeAt Go.RowKit Go.Proofs.YteomkgcepiecjaaGreat.I
set_option linter.unusedVariables false
set_option linter.unusedSimpArgs false
theorem own : ownKnob Tryz.prog.godebug = none := by kernel_rfl
theorem laidOut : laidOutB Tryz.prog = true := by kernel_rfl
set_option maxRecDepth 100000 in
theorem lifted (os : Os) (started : os.Started) (H : Type) (enc : TypeId × Value → H) :
    ReturnsInHanded {} Tryz.checked os 3 .any (Rows.cursorDoesSpec.pre6 enc Tryz.prog Tryz.f3 Rows.cursorDoesRow.domain false) (Rows.cursorDoesSpec.post enc Tryz.prog Tryz.f3 false true false false) := by
  refine returnsInHanded_of_change_sized (C := Tryz.checked) own started (by kernel_rfl) Tryz.func3
    (ChangeSpec.witness6 (enc := enc) (C := Tryz.checked) false ⟨#[], #[.int .i64 0, .int .u64 0, .int .u8 0, .bool false, .slice none 0 0], []⟩ 8 (by kernel_rfl) (by kernel_rfl) (by kernel_rfl) (by kernel_rfl)) ?_
  intro W base args ds gs before hval0 hW hcnd hsz0 _
  have hval : ∀ (j : Nat) t v, Tryz.f3.params[j]? = some t → args[j]? = some v → Value.okWide Tryz.prog W .any base t v := hval0
  have hW' := hW
  obtain ⟨p, q, hA0, hV, rfl, hfz, hnd⟩ := hW
  have hA : DataW.TrodAll enc Tryz.prog W 0 (fun _ => true) true Tryz.f3.params.toList args.toList ds p := hA0
  rw [Tryz.params3] at hA hval
  obtain ⟨v0, vs0, d0, ds0, p0, q0, hargs, rfl, rfl, h0, r0⟩ := trodAll_cons hA
  obtain ⟨v1, vs1, d1, ds1, p1, q1, rfl, rfl, rfl, h1, r1⟩ := trodAll_cons r0
  obtain ⟨v2, vs2, d2, ds2, p2, q2, rfl, rfl, rfl, h2, r2⟩ := trodAll_cons r1
  obtain ⟨v3, vs3, d3, ds3, p3, q3, rfl, rfl, rfl, h3, r3⟩ := trodAll_cons r2
  obtain ⟨v4, vs4, d4, ds4, p4, q4, rfl, rfl, rfl, h4, r4⟩ := trodAll_cons r3
  obtain ⟨rfl, rfl, rfl⟩ := trodAll_nil r4
  obtain rfl : args = #[v0, v1, v2, v3, v4] := by cases args; simp_all
  obtain ⟨rfl, rfl⟩ := trodVars_none hV
  have lt0 : ∀ x ∈ p0, x.block < W.heap.size := by obtain ⟨m, hm⟩ := h0; exact DataW.trod_lt m _ _ _ hm
  obtain ⟨y0, s0, c0, f0, o0⟩ := open_any (n := 8) (sh := .z) (by kernel_rfl) (hval 0 3 v0 rfl rfl) h0
  rw [show Tryz.prog.cellsOf 3 = 1 by kernel_rfl, show aggT Tryz.prog 3 = false by kernel_rfl] at f0
  obtain ⟨x0, rfl⟩ := cov_z y0 s0.wf f0 o0
  have lt1 : ∀ x ∈ p1, x.block < W.heap.size := by obtain ⟨m, hm⟩ := h1; exact DataW.trod_lt m _ _ _ hm
  obtain ⟨y1, s1, c1, f1, o1⟩ := open_any (n := 8) (sh := (.n .u64)) (by kernel_rfl) (hval 1 22 v1 rfl rfl) h1
  rw [show Tryz.prog.cellsOf 22 = 1 by kernel_rfl, show aggT Tryz.prog 22 = false by kernel_rfl] at f1
  obtain ⟨x1, rfl⟩ := (cov_n .u64) y1 s1.wf f1 o1
  have lt2 : ∀ x ∈ p2, x.block < W.heap.size := by obtain ⟨m, hm⟩ := h2; exact DataW.trod_lt m _ _ _ hm
  obtain ⟨y2, s2, c2, f2, o2⟩ := open_any (n := 8) (sh := (.n .u8)) (by kernel_rfl) (hval 2 5 v2 rfl rfl) h2
  rw [show Tryz.prog.cellsOf 5 = 1 by kernel_rfl, show aggT Tryz.prog 5 = false by kernel_rfl] at f2
  obtain ⟨x2, rfl⟩ := (cov_n .u8) y2 s2.wf f2 o2
  have lt3 : ∀ x ∈ p3, x.block < W.heap.size := by obtain ⟨m, hm⟩ := h3; exact DataW.trod_lt m _ _ _ hm
  obtain ⟨y3, s3, c3, f3, o3⟩ := open_any (n := 8) (sh := .b) (by kernel_rfl) (hval 3 4 v3 rfl rfl) h3
  rw [show Tryz.prog.cellsOf 4 = 1 by kernel_rfl, show aggT Tryz.prog 4 = false by kernel_rfl] at f3
  obtain ⟨x3, rfl⟩ := cov_b y3 s3.wf f3 o3
  have lt4 : ∀ x ∈ p4, x.block < W.heap.size := by obtain ⟨m, hm⟩ := h4; exact DataW.trod_lt m _ _ _ hm
  obtain ⟨y4, s4, c4, f4, o4⟩ := open_any (n := 8) (sh := (.sl 3 true (.seq [.z, (.seq [(.n .u64), (.n .u64)])]))) (by kernel_rfl) (hval 4 23 v4 rfl rfl) h4
  rw [show Tryz.prog.cellsOf 23 = 1 by kernel_rfl, show aggT Tryz.prog 23 = false by kernel_rfl] at f4
  obtain ⟨x4, rfl⟩ := (cov_sl cov_Ac) y4 s4.wf f4 o4
  clear hA0 hval0 hsz0
  refine (law_of ok_law16_CursorDoes W (.cons s0 (.cons s1 (.cons s2 (.cons s3 (.cons s4 (.nil)))))) (by simp only [cleans, c0, c1, c2, c3, c4, Bool.and_self]) (by simp only [c_law16_CursorDoes, fn1.eq_1, fn2.eq_1, fn3.eq_1, fn4.eq_1, fn5.eq_1, so.eq_def, Ty.h1, C_k, C2_k, and_true, and_self])).mono fun e W' ⟨he, bel⟩ => ?_
  subst he
  exact ⟨_, rfl, _, _, _, [], _, [], hW', trodAll_mk1 (shut_bool Tryz.underlying4 _), (trodAll_cons_mk (Below.trod laidOut (by kernel_rfl) (of_decide_eq_true (by kernel_rfl)) h0 bel lt0) (trodAll_cons_mk (Below.trod laidOut (by kernel_rfl) (of_decide_eq_true (by kernel_rfl)) h1 bel lt1) (trodAll_cons_mk (Below.trod laidOut (by kernel_rfl) (of_decide_eq_true (by kernel_rfl)) h2 bel lt2) (trodAll_cons_mk (Below.trod laidOut (by kernel_rfl) (of_decide_eq_true (by kernel_rfl)) h3 bel lt3) (trodAll_cons_mk (Below.trod laidOut (by kernel_rfl) (of_decide_eq_true (by kernel_rfl)) h4 bel lt4) trodAll_mk0))))), rfl, bel.frame _, fun h => by cases h⟩
theorem over : Rows.cursorDoesRow.holds Tryz.pinned (OpenSpec.ofChange Rows.cursorDoesSpec) :=
  OpenClaim.holds_of_wide 3 Tryz.f3 rfl rfl rfl rfl rfl rfl rfl ⟨rfl, rfl, rfl, rfl, rfl⟩ rfl rfl rfl rfl rfl (by kernel_rfl) Tryz.func3 (by kernel_rfl)
    (of_decide_eq_true (by kernel_rfl)) (by unfold Func.isWrapper; first | (rw [if_pos (by decide +kernel)]; kernel_rfl) | (rw [if_neg (by decide +kernel)]; exact ⟨rfl, rfl⟩))
    (fun os started H enc _ => lifted os started H enc)
end Go.Proofs.YteomkgcepiecjaaGreat.cursorDoes
namespace Go.Proofs.YteomkgcepiecjaaGreat
theorem cursorDoes_holds : Rows.CursorDoesSaid := cursorDoes.over
#print axioms cursorDoes_holds
end Go.Proofs.YteomkgcepiecjaaGreat
