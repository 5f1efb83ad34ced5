/- SpanApart: whatever the input, true; no condition. Printed by a program of mine. -/
import Derived.Test.YtlcnohmnemmbdaaLawG
import Derived.Test.YtlcnohmnemmbdaaLaw15a
import Derived.Test.YtlcnohmnemmbdaaLawP
namespace Go.Proofs.Ytlcnohmnemmbdaa.spanApart
open Go.ChangeShapes Go.WideShapes Go.ChangeAt Go.RowKit Go.Proofs.Ytlcnohmnemmbdaa.I
set_option linter.unusedVariables false
set_option linter.unusedSimpArgs false
theorem own : ownKnob Try.prog.godebug = none := by kernel_rfl
theorem laidOut : laidOutB Try.prog = true := by kernel_rfl
set_option maxRecDepth 100000 in
theorem lifted (os : Os) (started : os.Started) (H : Type) (enc : TypeId × Value → H) :
    ReturnsInHanded {} Try.checked os 5 .any (Rows.spanApartSpec.pre6 enc Try.prog Try.f5 Rows.spanApartRow.domain false) (Rows.spanApartSpec.post enc Try.prog Try.f5 false true false false) := by
  refine returnsInHanded_of_change_sized (C := Try.checked) own started (by kernel_rfl) Try.func5
    (ChangeSpec.witness6 (enc := enc) (C := Try.checked) false ⟨#[], #[.slice none 0 0, .agg #[.int .u64 0, .int .u64 0]], []⟩ 8 (by kernel_rfl) (by kernel_rfl) (by kernel_rfl) (by kernel_rfl)) ?_
  intro W base args ds gs before hval0 hW hcnd hsz0 _
  have hval : ∀ (j : Nat) t v, Try.f5.params[j]? = some t → args[j]? = some v → Value.okWide Try.prog W .any base t v := hval0
  have hW' := hW
  obtain ⟨p, q, hA0, hV, rfl, hfz, hnd⟩ := hW
  have hA : DataW.TrodAll enc Try.prog W 0 (fun _ => true) true Try.f5.params.toList args.toList ds p := hA0
  rw [Try.params5] at hA hval
  obtain ⟨v0, vs0, d0, ds0, p0, q0, hargs, rfl, rfl, h0, r0⟩ := trodAll_cons hA
  obtain ⟨v1, vs1, d1, ds1, p1, q1, rfl, rfl, rfl, h1, r1⟩ := trodAll_cons r0
  obtain ⟨rfl, rfl, rfl⟩ := trodAll_nil r1
  obtain rfl : args = #[v0, v1] := by cases args; simp_all
  obtain ⟨rfl, rfl⟩ := trodVars_none hV
  have lt0 : ∀ x ∈ p0, x.block < W.heap.size := by obtain ⟨m, hm⟩ := h0; exact DataW.trod_lt m _ _ _ hm
  obtain ⟨y0, s0, c0, f0, o0⟩ := open_any (n := 8) (sh := (.sl 4 true (.seq [(.seq [(.n .u64), (.n .u64)]), (.seq [(.n .u64), (.n .u64)])]))) (by kernel_rfl) (hval 0 27 v0 rfl rfl) h0
  rw [show Try.prog.cellsOf 27 = 1 by kernel_rfl, show aggT Try.prog 27 = false by kernel_rfl] at f0
  obtain ⟨x0, rfl⟩ := (cov_sl cov_2) y0 s0.wf f0 o0
  have lt1 : ∀ x ∈ p1, x.block < W.heap.size := by obtain ⟨m, hm⟩ := h1; exact DataW.trod_lt m _ _ _ hm
  obtain ⟨y1, s1, c1, f1, o1⟩ := open_any (n := 8) (sh := (.seq [(.n .u64), (.n .u64)])) (by kernel_rfl) (hval 1 24 v1 rfl rfl) h1
  rw [show Try.prog.cellsOf 24 = 2 by kernel_rfl, show aggT Try.prog 24 = true by kernel_rfl] at f1
  obtain ⟨x1, rfl⟩ := cov_w y1 s1.wf f1 o1
  clear hA0 hval0 hsz0
  refine (law_of ok_law15_SpanApart W (.cons s0 (.cons s1 (.nil))) (by simp only [cleans, c0, c1, Bool.and_self]) (by simp only [c_law15_SpanApart, fn1.eq_1, fn2.eq_1, fn3.eq_1, fn4.eq_1, so.eq_def, Ty.h1, C_k, C2_k, and_true, and_self])).mono fun e W' ⟨he, bel⟩ => ?_
  subst he
  exact ⟨_, rfl, _, _, _, [], _, [], hW', trodAll_mk1 (shut_bool Try.underlying4 _), (trodAll_cons_mk (Below.trod laidOut (by kernel_rfl) (of_decide_eq_true (by kernel_rfl)) h0 bel lt0) (trodAll_cons_mk (Below.trod laidOut (by kernel_rfl) (of_decide_eq_true (by kernel_rfl)) h1 bel lt1) trodAll_mk0)), rfl, bel.frame _, fun h => by cases h⟩
theorem over : Rows.spanApartRow.holds Try.pinned (OpenSpec.ofChange Rows.spanApartSpec) :=
  OpenClaim.holds_of_wide 5 Try.f5 rfl rfl rfl rfl rfl rfl rfl ⟨rfl, rfl, rfl, rfl, rfl⟩ rfl rfl rfl rfl rfl (by kernel_rfl) Try.func5 (by kernel_rfl)
    (of_decide_eq_true (by kernel_rfl)) (by unfold Func.isWrapper; first | (rw [if_pos (by decide +kernel)]; kernel_rfl) | (rw [if_neg (by decide +kernel)]; exact ⟨rfl, rfl⟩))
    (fun os started H enc _ => lifted os started H enc)
end Go.Proofs.Ytlcnohmnemmbdaa.spanApart
namespace Go.Proofs.Ytlcnohmnemmbdaa
/-- The row, under a short name, for the claim. -/
theorem spanApart_holds : Rows.SpanApartSaid := spanApart.over
#print axioms spanApart_holds
end Go.Proofs.Ytlcnohmnemmbdaa
