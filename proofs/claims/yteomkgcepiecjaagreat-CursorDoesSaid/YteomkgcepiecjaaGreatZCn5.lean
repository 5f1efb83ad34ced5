/- Contracts of functions of five arguments. -/
import Derived.Test.YteomkgcepiecjaaGreatZM3
namespace Go.Proofs.YteomkgcepiecjaaGreat.I
open Go
set_option linter.unusedSectionVars false
def fn5 {α β γ δ ε : Type} (A : Ty α) (B : Ty β) (C : Ty γ) (D : Ty δ) (E : Ty ε) (pre : α → β → γ → δ → ε → Prop) (f : α → β → γ → δ → ε → V) : Cn
  | [a, b, c, d, e], om, K => @so _ (A.dec a) ⟨fun x => @so _ (B.dec b) ⟨fun y => @so _ (C.dec c) ⟨fun z => @so _ (D.dec d) ⟨fun w => @so _ (E.dec e) ⟨fun v => pre x y z w v ∧ K.k (f x y z w v) om⟩⟩⟩⟩⟩
  | _, _, _ => False
attribute [go_sem] fn5.eq_1
section
variable {α β γ δ ε : Type} {A : Ty α} {B : Ty β} {C : Ty γ} {D : Ty δ} {E : Ty ε} {pre : α → β → γ → δ → ε → Prop} {f : α → β → γ → δ → ε → V}
theorem fn5_mono : Mono (fn5 A B C D E pre f) := by
  intro args om K K' hK h
  unfold fn5 at h ⊢
  split at h
  · exact mono_so (fun x h => mono_so (fun y h => mono_so (fun z h => mono_so (fun w h => mono_so (fun v h => ⟨h.1, hK _ _ h.2⟩) h) h) h) h) h
  · exact h.elim
end
section
variable {P : Program} {cx : Cx} (C : COk P cx) (hx : P.follows .mixedOrders = true) {f : FuncId} {fn : Func} {code : Code} (hf : P.funcs[f]? = some fn) (hb : fn.body = some code) (hn : (fn.name == "runtime.NumGoroutine") = false) (hg : okCode cx code = true) (hy : cx.y = none)
include C hx hf hb hn hg hy
theorem ok_fn5 {α β γ δ ε : Type} {A : Ty α} {B : Ty β} {D : Ty γ} {E : Ty δ} {F : Ty ε} {pre : α → β → γ → δ → ε → Prop} {g : α → β → γ → δ → ε → V} (h : ∀ x y z u v om, wfs [A.enc x, B.enc y, D.enc z, E.enc u, F.enc v] → pre x y z u v → body cx fn code [A.enc x, B.enc y, D.enc z, E.enc u, F.enc v] om (Same om (g x y z u v))) : Ok P f (fn5 A B D E F pre g) where
  mono := fn5_mono
  run := run_of hf hb hn
  tells := fun X om args vs Q G hr hcl hc => by
    unfold fn5 at hc
    split at hc
    · replace hc := so_inv hc; obtain ⟨x, e, hc⟩ := hc
      obtain rfl := A.h2 _ _ e
      replace hc := so_inv hc; obtain ⟨y, e, hc⟩ := hc
      obtain rfl := B.h2 _ _ e
      replace hc := so_inv hc; obtain ⟨z, e, hc⟩ := hc
      obtain rfl := D.h2 _ _ e
      replace hc := so_inv hc; obtain ⟨u, e, hc⟩ := hc
      obtain rfl := E.h2 _ _ e
      replace hc := so_inv hc; obtain ⟨v, e, hp, hc⟩ := hc
      obtain rfl := F.h2 _ _ e
      exact tells_same C hx hf hb hn hg hy G hr hcl hc (h _ _ _ _ _ _ hr.wfs hp)
    · exact hc.elim
end
end Go.Proofs.YteomkgcepiecjaaGreat.I
