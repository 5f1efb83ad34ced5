/- Texts of the ideal machine, or of plain numbers, one behind the other: Law, LawB. -/
import Derived.Test.YteomkgcepiecjaaGreatZM3
import Derived.Test.YteomkgcepiecjaaGreatRows
import Derived.WalkKit
import Derived.ProofKit
import Derived.OpenShut
import Derived.ShutString
import Derived.ChangeOld
import Derived.Below
import Derived.SizedLaws
import Derived.Carry
/- From a contract to a statement: what comes from outside, as ideal values. -/
namespace Go.Proofs.YteomkgcepiecjaaGreat.I
open Go Go.RowKit Go.ChangeAt
def base (W : World) : Lay := ⟨W, fun b _ => b < W.heap.size, fun _ => False, fun _ => (0, 0), fun _ => 0, fun _ => 0⟩
theorem law_of {P : Program} {n : FuncId} {c : Cn} (h : Ok P n c) {args : List V} {vs : List Value} (W : World) (hr : RepL (base W) vs args) (hcl : cleans args = true) (hc : @c args (fun _ => none) ⟨fun r _ => r = .b true⟩) :
    Calls P n vs.toArray W fun e w' => e = .returned (.bool true) ∧ Below W.heap.size W w' := by
  refine (h.tells (base W) (fun _ => none) args vs _ ⟨fun id cs e => (by cases e), fun b o h => h⟩ hr hcl hc).mono ?_
  rintro e w' ⟨v, Y, r, om', rfl, rfl, rfl, hrep, _, hk⟩
  refine ⟨by cases hrep; rfl, hk.fn.os, hk.fn.tape, hk.fn.output, hk.fn.size, fun b hb => hk.fb b hb rfl⟩
theorem cell_spot {W : World} {x : Addr} {v : Value} (h : W.cell? x = some v) : x.spot = none ∧ x.block < W.heap.size := by
  unfold World.cell? at h
  split at h
  · rename_i hb
    refine ⟨?_, (Array.getElem?_eq_some_iff.1 hb).1⟩
    cases hs : x.spot with
    | none => rfl
    | some s => simp [hs] at h
  · cases h
theorem rep_nat {k : IntKind} (hk : k.signed = false) {W : World} {n : Int} (h : (Lit.int k n).wf = true) : Rep (base W) (.int k n) (.n k n.toNat) := by
  have hmin : k.min = 0 := by cases k <;> simp [IntKind.signed] at hk <;> rfl
  have hmax : k.max + 1 = 2 ^ k.bits := by cases k <;> simp [IntKind.signed] at hk <;> rfl
  simp only [Lit.wf, Bool.and_eq_true, decide_eq_true_eq, hmin] at h
  have r2 : n.toNat < 2 ^ k.bits := by
    have : (n.toNat : Int) < ((2 ^ k.bits : Nat) : Int) := by rw [Int.natCast_pow]; show _ < (2 : Int) ^ k.bits; omega
    exact_mod_cast this
  have := Rep.n (X := base W) k n.toNat hk r2
  rwa [Int.toNat_of_nonneg h.1] at this
theorem rep_i64 {W : World} {n : Int} (h : (Lit.int .i64 n).wf = true) : Rep (base W) (.int .i64 n) (.z n) := by
  refine .z n ?_
  have h1 : IntKind.i64.min = -9223372036854775808 := rfl
  have h2 : IntKind.i64.max = 9223372036854775807 := rfl
  simp only [Lit.wf, Bool.and_eq_true, decide_eq_true_eq, h1, h2] at h
  exact h
end Go.Proofs.YteomkgcepiecjaaGreat.I
/- Rows of bools that come from outside. -/
namespace Go.Proofs.YteomkgcepiecjaaGreat.I
open Go Go.RowKit Go.ChangeAt Go.ChangeShapes Go.WideShapes
section
variable {H : Type} {enc : TypeId × Value → H} {P : Program} {w : World} {base : Nat} {spare : Nat → Bool} {held : Bool}
end
end Go.Proofs.YteomkgcepiecjaaGreat.I
