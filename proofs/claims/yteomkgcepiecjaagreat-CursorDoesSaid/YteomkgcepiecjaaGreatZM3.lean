/- Texts of the ideal machine, or of plain numbers, one behind the other: Cn, Skip, Els, Bor. -/
import Derived.Test.YteomkgcepiecjaaGreatZM2
import Derived.Test.YteomkgcepiecjaaGreatZM1
import Derived.Test.YteomkgcepiecjaaGreatZTable
import Derived.Test.YteomkgcepiecjaaGreatChecked
import Derived.KernelRfl
/- Contracts of functions that tell a value and leave all objects as they are; how they are shown. -/
namespace Go.Proofs.YteomkgcepiecjaaGreat.I
open Go
set_option linter.unusedSectionVars false
attribute [go_sem] sliceS.eq_def bnd.eq_def Option.isNone_none Option.isNone_some Option.isSome_some Option.isSome_none
structure Ty (α : Type) where
  enc : α → V
  dec : V → Option α
  h1 : ∀ a, dec (enc a) = some a
  h2 : ∀ v a, dec v = some a → v = enc a
noncomputable def Ty.by {α : Type} (enc : α → V) (inj : ∀ a b, enc a = enc b → a = b) : Ty α := by
  classical exact
    { enc := enc
      dec := fun v => if h : ∃ a, v = enc a then some h.choose else none
      h1 := fun a => by
        have h : ∃ b, enc a = enc b := ⟨a, rfl⟩
        have e := inj _ _ h.choose_spec
        rw [dif_pos h]; exact congrArg some e.symm
      h2 := fun v a e => by
        split at e
        · rename_i h'; injection e with e; rw [← e]; exact h'.choose_spec
        · cases e }
def fn0 (f : V) : Cn
  | [], om, K => K.k f om
  | _, _, _ => False
def fn1 {α : Type} (A : Ty α) (pre : α → Prop) (f : α → V) : Cn
  | [a], om, K => @so _ (A.dec a) ⟨fun x => pre x ∧ K.k (f x) om⟩
  | _, _, _ => False
def fn2 {α β : Type} (A : Ty α) (B : Ty β) (pre : α → β → Prop) (f : α → β → V) : Cn
  | [a, b], om, K => @so _ (A.dec a) ⟨fun x => @so _ (B.dec b) ⟨fun y => pre x y ∧ K.k (f x y) om⟩⟩
  | _, _, _ => False
def fn3 {α β γ : Type} (A : Ty α) (B : Ty β) (C : Ty γ) (pre : α → β → γ → Prop) (f : α → β → γ → V) : Cn
  | [a, b, c], om, K => @so _ (A.dec a) ⟨fun x => @so _ (B.dec b) ⟨fun y => @so _ (C.dec c) ⟨fun z => pre x y z ∧ K.k (f x y z) om⟩⟩⟩
  | _, _, _ => False
def fn4 {α β γ δ : Type} (A : Ty α) (B : Ty β) (C : Ty γ) (D : Ty δ) (pre : α → β → γ → δ → Prop) (f : α → β → γ → δ → V) : Cn
  | [a, b, c, d], om, K => @so _ (A.dec a) ⟨fun x => @so _ (B.dec b) ⟨fun y => @so _ (C.dec c) ⟨fun z => @so _ (D.dec d) ⟨fun w => pre x y z w ∧ K.k (f x y z w) om⟩⟩⟩⟩
  | _, _, _ => False
attribute [go_sem] fn0.eq_1 fn1.eq_1 fn2.eq_1 fn3.eq_1 fn4.eq_1
theorem mono_so {α : Type} {x : Option α} {F F' : α → Prop} (h : ∀ a, F a → F' a) (hh : @so α x ⟨F⟩) : @so α x ⟨F'⟩ := by
  obtain ⟨a, e, ha⟩ := so_inv hh
  exact so_of e (h a ha)
theorem fn0_mono {f : V} : Mono (fn0 f) := by
  intro args om K K' hK h
  unfold fn0 at h ⊢
  split at h
  · exact hK _ _ h
  · exact h.elim
theorem fn1_mono {α : Type} {A : Ty α} {pre : α → Prop} {f : α → V} : Mono (fn1 A pre f) := by
  intro args om K K' hK h
  unfold fn1 at h ⊢
  split at h
  · exact mono_so (fun x h => ⟨h.1, hK _ _ h.2⟩) h
  · exact h.elim
theorem fn2_mono {α β : Type} {A : Ty α} {B : Ty β} {pre : α → β → Prop} {f : α → β → V} : Mono (fn2 A B pre f) := by
  intro args om K K' hK h
  unfold fn2 at h ⊢
  split at h
  · exact mono_so (fun x h => mono_so (fun y h => ⟨h.1, hK _ _ h.2⟩) h) h
  · exact h.elim
theorem fn3_mono {α β γ : Type} {A : Ty α} {B : Ty β} {C : Ty γ} {pre : α → β → γ → Prop} {f : α → β → γ → V} : Mono (fn3 A B C pre f) := by
  intro args om K K' hK h
  unfold fn3 at h ⊢
  split at h
  · exact mono_so (fun x h => mono_so (fun y h => mono_so (fun z h => ⟨h.1, hK _ _ h.2⟩) h) h) h
  · exact h.elim
theorem fn4_mono {α β γ δ : Type} {A : Ty α} {B : Ty β} {C : Ty γ} {D : Ty δ} {pre : α → β → γ → δ → Prop} {f : α → β → γ → δ → V} : Mono (fn4 A B C D pre f) := by
  intro args om K K' hK h
  unfold fn4 at h ⊢
  split at h
  · exact mono_so (fun x h => mono_so (fun y h => mono_so (fun z h => mono_so (fun w h => ⟨h.1, hK _ _ h.2⟩) h) h) h) h
  · exact h.elim
theorem fn0_quiet {f : V} : Quiet (fn0 f) := by
  intro args om K h
  unfold fn0 at h ⊢
  split at h
  · exact ⟨.refl _, h⟩
  · exact h.elim
theorem fn1_quiet {α : Type} {A : Ty α} {pre : α → Prop} {f : α → V} : Quiet (fn1 A pre f) := by
  intro args om K h
  unfold fn1 at h ⊢
  split at h
  · exact mono_so (fun x h => ⟨h.1, .refl _, h.2⟩) h
  · exact h.elim
theorem fn2_quiet {α β : Type} {A : Ty α} {B : Ty β} {pre : α → β → Prop} {f : α → β → V} : Quiet (fn2 A B pre f) := by
  intro args om K h
  unfold fn2 at h ⊢
  split at h
  · exact mono_so (fun x h => mono_so (fun y h => ⟨h.1, .refl _, h.2⟩) h) h
  · exact h.elim
theorem fn3_quiet {α β γ : Type} {A : Ty α} {B : Ty β} {C : Ty γ} {pre : α → β → γ → Prop} {f : α → β → γ → V} : Quiet (fn3 A B C pre f) := by
  intro args om K h
  unfold fn3 at h ⊢
  split at h
  · exact mono_so (fun x h => mono_so (fun y h => mono_so (fun z h => ⟨h.1, .refl _, h.2⟩) h) h) h
  · exact h.elim
theorem fn4_quiet {α β γ δ : Type} {A : Ty α} {B : Ty β} {C : Ty γ} {D : Ty δ} {pre : α → β → γ → δ → Prop} {f : α → β → γ → δ → V} : Quiet (fn4 A B C D pre f) := by
  intro args om K h
  unfold fn4 at h ⊢
  split at h
  · exact mono_so (fun x h => mono_so (fun y h => mono_so (fun z h => mono_so (fun w h => ⟨h.1, .refl _, h.2⟩) h) h) h) h
  · exact h.elim
theorem mono_spl {x : Bool} {A B A' B' : Prop} (h : A → A') (h' : B → B') (g : @spl x ⟨A⟩ ⟨B⟩) : @spl x ⟨A'⟩ ⟨B'⟩ := ⟨fun e => h (g.1 e), fun e => h' (g.2 e)⟩
def fn1i {α : Type} (A : Ty α) (pre : α → Prop) (q : α → Prop) [∀ x, Decidable (q x)] (f g : α → V) : Cn
  | [a], om, K => @so _ (A.dec a) ⟨fun x => pre x ∧ @spl (decide (q x)) ⟨K.k (f x) om⟩ ⟨K.k (g x) om⟩⟩
  | _, _, _ => False
theorem fn1i_mono {α : Type} {A : Ty α} {pre q : α → Prop} [∀ x, Decidable (q x)] {f g : α → V} : Mono (fn1i A pre q f g) := by
  intro args om K K' hK h
  unfold fn1i at h ⊢
  split at h
  · exact mono_so (fun x h => ⟨h.1, mono_spl (hK _ _) (hK _ _) h.2⟩) h
  · exact h.elim
theorem fn1i_quiet {α : Type} {A : Ty α} {pre q : α → Prop} [∀ x, Decidable (q x)] {f g : α → V} : Quiet (fn1i A pre q f g) := by
  intro args om K h
  unfold fn1i at h ⊢
  split at h
  · exact mono_so (fun x h => ⟨h.1, mono_spl (fun g => ⟨.refl _, g⟩) (fun g => ⟨.refl _, g⟩) h.2⟩) h
  · exact h.elim
def fn2i {α β : Type} (A : Ty α) (B : Ty β) (pre : α → β → Prop) (q : α → β → Prop) [∀ x y, Decidable (q x y)] (f g : α → β → V) : Cn
  | [a, b], om, K => @so _ (A.dec a) ⟨fun x => @so _ (B.dec b) ⟨fun y => pre x y ∧ @spl (decide (q x y)) ⟨K.k (f x y) om⟩ ⟨K.k (g x y) om⟩⟩⟩
  | _, _, _ => False
theorem fn2i_mono {α β : Type} {A : Ty α} {B : Ty β} {pre q : α → β → Prop} [∀ x y, Decidable (q x y)] {f g : α → β → V} : Mono (fn2i A B pre q f g) := by
  intro args om K K' hK h
  unfold fn2i at h ⊢
  split at h
  · exact mono_so (fun x h => mono_so (fun y h => ⟨h.1, mono_spl (hK _ _) (hK _ _) h.2⟩) h) h
  · exact h.elim
theorem fn2i_quiet {α β : Type} {A : Ty α} {B : Ty β} {pre q : α → β → Prop} [∀ x y, Decidable (q x y)] {f g : α → β → V} : Quiet (fn2i A B pre q f g) := by
  intro args om K h
  unfold fn2i at h ⊢
  split at h
  · exact mono_so (fun x h => mono_so (fun y h => ⟨h.1, mono_spl (fun g => ⟨.refl _, g⟩) (fun g => ⟨.refl _, g⟩) h.2⟩) h) h
  · exact h.elim
def fn3i {α β γ : Type} (A : Ty α) (B : Ty β) (D : Ty γ) (pre : α → β → γ → Prop) (q : α → β → γ → Prop) [∀ x y z, Decidable (q x y z)] (f g : α → β → γ → V) : Cn
  | [a, b, c], om, K => @so _ (A.dec a) ⟨fun x => @so _ (B.dec b) ⟨fun y => @so _ (D.dec c) ⟨fun z => pre x y z ∧ @spl (decide (q x y z)) ⟨K.k (f x y z) om⟩ ⟨K.k (g x y z) om⟩⟩⟩⟩
  | _, _, _ => False
theorem fn3i_mono {α β γ : Type} {A : Ty α} {B : Ty β} {D : Ty γ} {pre q : α → β → γ → Prop} [∀ x y z, Decidable (q x y z)] {f g : α → β → γ → V} : Mono (fn3i A B D pre q f g) := by
  intro args om K K' hK h
  unfold fn3i at h ⊢
  split at h
  · exact mono_so (fun x h => mono_so (fun y h => mono_so (fun z h => ⟨h.1, mono_spl (hK _ _) (hK _ _) h.2⟩) h) h) h
  · exact h.elim
theorem fn3i_quiet {α β γ : Type} {A : Ty α} {B : Ty β} {D : Ty γ} {pre q : α → β → γ → Prop} [∀ x y z, Decidable (q x y z)] {f g : α → β → γ → V} : Quiet (fn3i A B D pre q f g) := by
  intro args om K h
  unfold fn3i at h ⊢
  split at h
  · exact mono_so (fun x h => mono_so (fun y h => mono_so (fun z h => ⟨h.1, mono_spl (fun g => ⟨.refl _, g⟩) (fun g => ⟨.refl _, g⟩) h.2⟩) h) h) h
  · exact h.elim
def fn4i {α β γ δ : Type} (A : Ty α) (B : Ty β) (D : Ty γ) (E : Ty δ) (pre : α → β → γ → δ → Prop) (q : α → β → γ → δ → Prop) [∀ x y z w, Decidable (q x y z w)] (f g : α → β → γ → δ → V) : Cn
  | [a, b, c, d], om, K => @so _ (A.dec a) ⟨fun x => @so _ (B.dec b) ⟨fun y => @so _ (D.dec c) ⟨fun z => @so _ (E.dec d) ⟨fun w => pre x y z w ∧ @spl (decide (q x y z w)) ⟨K.k (f x y z w) om⟩ ⟨K.k (g x y z w) om⟩⟩⟩⟩⟩
  | _, _, _ => False
theorem fn4i_mono {α β γ δ : Type} {A : Ty α} {B : Ty β} {D : Ty γ} {E : Ty δ} {pre q : α → β → γ → δ → Prop} [∀ x y z w, Decidable (q x y z w)] {f g : α → β → γ → δ → V} : Mono (fn4i A B D E pre q f g) := by
  intro args om K K' hK h
  unfold fn4i at h ⊢
  split at h
  · exact mono_so (fun x h => mono_so (fun y h => mono_so (fun z h => mono_so (fun w h => ⟨h.1, mono_spl (hK _ _) (hK _ _) h.2⟩) h) h) h) h
  · exact h.elim
theorem fn4i_quiet {α β γ δ : Type} {A : Ty α} {B : Ty β} {D : Ty γ} {E : Ty δ} {pre q : α → β → γ → δ → Prop} [∀ x y z w, Decidable (q x y z w)] {f g : α → β → γ → δ → V} : Quiet (fn4i A B D E pre q f g) := by
  intro args om K h
  unfold fn4i at h ⊢
  split at h
  · exact mono_so (fun x h => mono_so (fun y h => mono_so (fun z h => mono_so (fun w h => ⟨h.1, mono_spl (fun g => ⟨.refl _, g⟩) (fun g => ⟨.refl _, g⟩) h.2⟩) h) h) h) h
  · exact h.elim
attribute [go_sem] fn1i.eq_1 fn2i.eq_1 fn3i.eq_1 fn4i.eq_1
def Same (om : Om) (v : V) : V → Om → Prop := fun r om' => OmKept om om' ∧ r = v
@[go_sem] theorem Same_eq (om om' : Om) (v r : V) : Same om v r om' = (OmKept om om' ∧ r = v) := rfl
theorem same_if_pos {cx : Cx} {fn : Func} {code : Code} {args : List V} {om : Om} {p : Prop} [Decidable p] {a b : V} (hp : p) (h : body cx fn code args om (Same om (if p then a else b))) : body cx fn code args om (Same om a) := by rwa [if_pos hp] at h
theorem same_if_neg {cx : Cx} {fn : Func} {code : Code} {args : List V} {om : Om} {p : Prop} [Decidable p] {a b : V} (hp : ¬p) (h : body cx fn code args om (Same om (if p then a else b))) : body cx fn code args om (Same om b) := by rwa [if_neg hp] at h
section
variable {P : Program} {cx : Cx} (C : COk P cx) (hx : P.follows .mixedOrders = true) {f : FuncId} {fn : Func} {code : Code} (hf : P.funcs[f]? = some fn) (hb : fn.body = some code) (hn : (fn.name == "runtime.NumGoroutine") = false) (hg : okCode cx code = true) (hy : cx.y = none)
include C hx hf hb hn hg hy
theorem tells_same {X : Lay} {om : Om} {args : List V} {vs : List Value} {v : V} {Q : V → Om → Prop} (G : Good X om) (hr : RepL X vs args) (hcl : cleans args = true) (hQ : Q v om) (h : body cx fn code args om (Same om v)) : Tells P f X om vs.toArray Q :=
  (body_tells C hx hf hb hg (fun l c e => by rw [hy] at e; cases e) G hr hcl h).less fun r om' h => ⟨om, h.1, by rw [h.2]; exact hQ⟩
theorem ok_fn0 {g : V} (h : ∀ om, body cx fn code [] om (Same om g)) : Ok P f (fn0 g) where
  mono := fn0_mono
  run := run_of hf hb hn
  tells := fun X om args vs Q G hr hcl hc => by
    unfold fn0 at hc
    split at hc
    · exact tells_same C hx hf hb hn hg hy G hr hcl hc (h _)
    · exact hc.elim
theorem ok_fn1 {α : Type} {A : Ty α} {pre : α → Prop} {g : α → V} (h : ∀ x om, wfs [A.enc x] → pre x → body cx fn code [A.enc x] om (Same om (g x))) : Ok P f (fn1 A pre g) where
  mono := fn1_mono
  run := run_of hf hb hn
  tells := fun X om args vs Q G hr hcl hc => by
    unfold fn1 at hc
    split at hc
    · replace hc := so_inv hc; obtain ⟨x, e, hp, hc⟩ := hc
      obtain rfl := A.h2 _ _ e
      exact tells_same C hx hf hb hn hg hy G hr hcl hc (h _ _ hr.wfs hp)
    · exact hc.elim
theorem ok_fn2 {α β : Type} {A : Ty α} {B : Ty β} {pre : α → β → Prop} {g : α → β → V} (h : ∀ x y om, wfs [A.enc x, B.enc y] → pre x y → body cx fn code [A.enc x, B.enc y] om (Same om (g x y))) : Ok P f (fn2 A B pre g) where
  mono := fn2_mono
  run := run_of hf hb hn
  tells := fun X om args vs Q G hr hcl hc => by
    unfold fn2 at hc
    split at hc
    · replace hc := so_inv hc; obtain ⟨x, e, hc⟩ := hc
      obtain rfl := A.h2 _ _ e
      replace hc := so_inv hc; obtain ⟨y, e, hp, hc⟩ := hc
      obtain rfl := B.h2 _ _ e
      exact tells_same C hx hf hb hn hg hy G hr hcl hc (h _ _ _ hr.wfs hp)
    · exact hc.elim
theorem ok_fn3 {α β γ : Type} {A : Ty α} {B : Ty β} {D : Ty γ} {pre : α → β → γ → Prop} {g : α → β → γ → V} (h : ∀ x y z om, wfs [A.enc x, B.enc y, D.enc z] → pre x y z → body cx fn code [A.enc x, B.enc y, D.enc z] om (Same om (g x y z))) : Ok P f (fn3 A B D pre g) where
  mono := fn3_mono
  run := run_of hf hb hn
  tells := fun X om args vs Q G hr hcl hc => by
    unfold fn3 at hc
    split at hc
    · replace hc := so_inv hc; obtain ⟨x, e, hc⟩ := hc
      obtain rfl := A.h2 _ _ e
      replace hc := so_inv hc; obtain ⟨y, e, hc⟩ := hc
      obtain rfl := B.h2 _ _ e
      replace hc := so_inv hc; obtain ⟨z, e, hp, hc⟩ := hc
      obtain rfl := D.h2 _ _ e
      exact tells_same C hx hf hb hn hg hy G hr hcl hc (h _ _ _ _ hr.wfs hp)
    · exact hc.elim
theorem ok_fn4 {α β γ δ : Type} {A : Ty α} {B : Ty β} {D : Ty γ} {E : Ty δ} {pre : α → β → γ → δ → Prop} {g : α → β → γ → δ → V} (h : ∀ x y z u om, wfs [A.enc x, B.enc y, D.enc z, E.enc u] → pre x y z u → body cx fn code [A.enc x, B.enc y, D.enc z, E.enc u] om (Same om (g x y z u))) : Ok P f (fn4 A B D E pre g) where
  mono := fn4_mono
  run := run_of hf hb hn
  tells := fun X om args vs Q G hr hcl hc => by
    unfold fn4 at hc
    split at hc
    · replace hc := so_inv hc; obtain ⟨x, e, hc⟩ := hc
      obtain rfl := A.h2 _ _ e
      replace hc := so_inv hc; obtain ⟨y, e, hc⟩ := hc
      obtain rfl := B.h2 _ _ e
      replace hc := so_inv hc; obtain ⟨z, e, hc⟩ := hc
      obtain rfl := D.h2 _ _ e
      replace hc := so_inv hc; obtain ⟨u, e, hp, hc⟩ := hc
      obtain rfl := E.h2 _ _ e
      exact tells_same C hx hf hb hn hg hy G hr hcl hc (h _ _ _ _ _ hr.wfs hp)
    · exact hc.elim
theorem ok_fn1i {α : Type} {A : Ty α} {pre q : α → Prop} [∀ x, Decidable (q x)] {g g' : α → V} (h : ∀ x om, wfs [A.enc x] → pre x → body cx fn code [A.enc x] om (Same om (if q x then g x else g' x))) : Ok P f (fn1i A pre q g g') where
  mono := fn1i_mono
  run := run_of hf hb hn
  tells := fun X om args vs Q G hr hcl hc => by
    unfold fn1i at hc
    split at hc
    · replace hc := so_inv hc; obtain ⟨x, e, hp, hc, hc'⟩ := hc
      obtain rfl := A.h2 _ _ e
      by_cases hq : q x
      · exact tells_same C hx hf hb hn hg hy G hr hcl (hc (decide_eq_true hq)) (same_if_pos hq (h _ _ hr.wfs hp))
      · exact tells_same C hx hf hb hn hg hy G hr hcl (hc' (decide_eq_false hq)) (same_if_neg hq (h _ _ hr.wfs hp))
    · exact hc.elim
theorem ok_fn2i {α β : Type} {A : Ty α} {B : Ty β} {pre q : α → β → Prop} [∀ x y, Decidable (q x y)] {g g' : α → β → V} (h : ∀ x y om, wfs [A.enc x, B.enc y] → pre x y → body cx fn code [A.enc x, B.enc y] om (Same om (if q x y then g x y else g' x y))) : Ok P f (fn2i A B pre q g g') where
  mono := fn2i_mono
  run := run_of hf hb hn
  tells := fun X om args vs Q G hr hcl hc => by
    unfold fn2i at hc
    split at hc
    · replace hc := so_inv hc; obtain ⟨x, e, hc⟩ := hc
      obtain rfl := A.h2 _ _ e
      replace hc := so_inv hc; obtain ⟨y, e, hp, hc, hc'⟩ := hc
      obtain rfl := B.h2 _ _ e
      by_cases hq : q x y
      · exact tells_same C hx hf hb hn hg hy G hr hcl (hc (decide_eq_true hq)) (same_if_pos hq (h _ _ _ hr.wfs hp))
      · exact tells_same C hx hf hb hn hg hy G hr hcl (hc' (decide_eq_false hq)) (same_if_neg hq (h _ _ _ hr.wfs hp))
    · exact hc.elim
theorem ok_fn3i {α β γ : Type} {A : Ty α} {B : Ty β} {D : Ty γ} {pre q : α → β → γ → Prop} [∀ x y z, Decidable (q x y z)] {g g' : α → β → γ → V} (h : ∀ x y z om, wfs [A.enc x, B.enc y, D.enc z] → pre x y z → body cx fn code [A.enc x, B.enc y, D.enc z] om (Same om (if q x y z then g x y z else g' x y z))) : Ok P f (fn3i A B D pre q g g') where
  mono := fn3i_mono
  run := run_of hf hb hn
  tells := fun X om args vs Q G hr hcl hc => by
    unfold fn3i at hc
    split at hc
    · replace hc := so_inv hc; obtain ⟨x, e, hc⟩ := hc
      obtain rfl := A.h2 _ _ e
      replace hc := so_inv hc; obtain ⟨y, e, hc⟩ := hc
      obtain rfl := B.h2 _ _ e
      replace hc := so_inv hc; obtain ⟨z, e, hp, hc, hc'⟩ := hc
      obtain rfl := D.h2 _ _ e
      by_cases hq : q x y z
      · exact tells_same C hx hf hb hn hg hy G hr hcl (hc (decide_eq_true hq)) (same_if_pos hq (h _ _ _ _ hr.wfs hp))
      · exact tells_same C hx hf hb hn hg hy G hr hcl (hc' (decide_eq_false hq)) (same_if_neg hq (h _ _ _ _ hr.wfs hp))
    · exact hc.elim
theorem ok_fn4i {α β γ δ : Type} {A : Ty α} {B : Ty β} {D : Ty γ} {E : Ty δ} {pre q : α → β → γ → δ → Prop} [∀ x y z w, Decidable (q x y z w)] {g g' : α → β → γ → δ → V} (h : ∀ x y z w om, wfs [A.enc x, B.enc y, D.enc z, E.enc w] → pre x y z w → body cx fn code [A.enc x, B.enc y, D.enc z, E.enc w] om (Same om (if q x y z w then g x y z w else g' x y z w))) : Ok P f (fn4i A B D E pre q g g') where
  mono := fn4i_mono
  run := run_of hf hb hn
  tells := fun X om args vs Q G hr hcl hc => by
    unfold fn4i at hc
    split at hc
    · replace hc := so_inv hc; obtain ⟨x, e, hc⟩ := hc
      obtain rfl := A.h2 _ _ e
      replace hc := so_inv hc; obtain ⟨y, e, hc⟩ := hc
      obtain rfl := B.h2 _ _ e
      replace hc := so_inv hc; obtain ⟨z, e, hc⟩ := hc
      obtain rfl := D.h2 _ _ e
      replace hc := so_inv hc; obtain ⟨w, e, hp, hc, hc'⟩ := hc
      obtain rfl := E.h2 _ _ e
      by_cases hq : q x y z w
      · exact tells_same C hx hf hb hn hg hy G hr hcl (hc (decide_eq_true hq)) (same_if_pos hq (h _ _ _ _ _ hr.wfs hp))
      · exact tells_same C hx hf hb hn hg hy G hr hcl (hc' (decide_eq_false hq)) (same_if_neg hq (h _ _ _ _ _ hr.wfs hp))
    · exact hc.elim
end
theorem Ok.weak {P : Program} {f : FuncId} {c c' : Cn} (hm : Mono c') (h : ∀ args om (K : V → Om → Prop), @c' args om ⟨K⟩ → @c args om ⟨K⟩) (o : Ok P f c) : Ok P f c' :=
  ⟨hm, o.run, fun X om args vs Q G hr hcl hc => o.tells X om args vs Q G hr hcl (h _ _ _ hc)⟩
def fn2j {α β : Type} (A : Ty α) (B : Ty β) (pre q r : α → β → Prop) [∀ x y, Decidable (q x y)] [∀ x y, Decidable (r x y)] (f g h : α → β → V) : Cn
  | [a, b], om, K => @so _ (A.dec a) ⟨fun x => @so _ (B.dec b) ⟨fun y => pre x y ∧ @spl (decide (q x y)) ⟨K.k (f x y) om⟩ ⟨@spl (decide (r x y)) ⟨K.k (g x y) om⟩ ⟨K.k (h x y) om⟩⟩⟩⟩
  | _, _, _ => False
attribute [go_sem] fn2j.eq_1
theorem fn2j_mono {α β : Type} {A : Ty α} {B : Ty β} {pre q r : α → β → Prop} [∀ x y, Decidable (q x y)] [∀ x y, Decidable (r x y)] {f g h : α → β → V} : Mono (fn2j A B pre q r f g h) := by
  intro args om K K' hK h
  unfold fn2j at h ⊢
  split at h
  · exact mono_so (fun _ h => mono_so (fun _ h => ⟨h.1, mono_spl (hK _ _) (mono_spl (hK _ _) (hK _ _)) h.2⟩) h) h
  · exact h.elim
theorem fn2j_quiet {α β : Type} {A : Ty α} {B : Ty β} {pre q r : α → β → Prop} [∀ x y, Decidable (q x y)] [∀ x y, Decidable (r x y)] {f g h : α → β → V} : Quiet (fn2j A B pre q r f g h) := by
  intro args om K h
  unfold fn2j at h ⊢
  split at h
  · exact mono_so (fun _ h => mono_so (fun _ h => ⟨h.1, mono_spl (fun g => ⟨.refl _, g⟩) (mono_spl (fun g => ⟨.refl _, g⟩) (fun g => ⟨.refl _, g⟩)) h.2⟩) h) h
  · exact h.elim
theorem ok_fn2j {P : Program} {n : FuncId} {α β : Type} {A : Ty α} {B : Ty β} {pre q r : α → β → Prop} [∀ x y, Decidable (q x y)] [∀ x y, Decidable (r x y)] {f g h : α → β → V}
    (o : Ok P n (fn2 A B pre fun x y => if q x y then f x y else if r x y then g x y else h x y)) : Ok P n (fn2j A B pre q r f g h) := by
  refine Ok.weak fn2j_mono (fun args om K hh => ?_) o
  unfold fn2j at hh
  unfold fn2
  split at hh
  · refine mono_so (fun x hh => mono_so (fun y hh => ⟨hh.1, ?_⟩) hh) hh
    show @C2.k V Om ⟨K⟩ (if q x y then f x y else if r x y then g x y else h x y) _
    rcases Decidable.em (q x y) with e | e
    · rw [if_pos e]; exact hh.2.1 (decide_eq_true e)
    · rw [if_neg e]
      have h2 := hh.2.2 (decide_eq_false e)
      rcases Decidable.em (r x y) with e' | e'
      · rw [if_pos e']; exact h2.1 (decide_eq_true e')
      · rw [if_neg e']; exact h2.2 (decide_eq_false e')
  · exact hh.elim
def tZ : Ty Int where
  enc := .z
  dec := fun | .z x => some x | _ => none
  h1 := fun _ => rfl
  h2 := fun v a e => by cases v <;> simp_all
def tN (k : IntKind) : Ty Nat where
  enc := .n k
  dec := fun | .n j x => if j = k then some x else none | _ => none
  h1 := fun _ => by simp
  h2 := fun v a e => by cases v <;> simp_all
def tB : Ty Bool where
  enc := .b
  dec := fun | .b x => some x | _ => none
  h1 := fun _ => rfl
  h2 := fun v a e => by cases v <;> simp_all
@[go_sem] theorem tZ_enc (x : Int) : tZ.enc x = .z x := rfl
@[go_sem] theorem tZ_dec (x : Int) : tZ.dec (.z x) = some x := rfl
@[go_sem] theorem tN_enc (k : IntKind) (x : Nat) : (tN k).enc x = .n k x := rfl
@[go_sem] theorem tN_dec (k : IntKind) (x : Nat) : (tN k).dec (.n k x) = some x := (tN k).h1 x
@[go_sem] theorem tB_enc (x : Bool) : tB.enc x = .b x := rfl
@[go_sem] theorem tB_dec (x : Bool) : tB.dec (.b x) = some x := rfl
end Go.Proofs.YteomkgcepiecjaaGreat.I
/- Slots far down a frame, in few steps. -/
namespace Go.Proofs.YteomkgcepiecjaaGreat.I
open Go
theorem getD_skip4 (a0 a1 a2 a3 d : V) (l : List V) (n : Nat) : (a0 :: a1 :: a2 :: a3 :: l).getD (n + 4) d = l.getD n d := rfl
theorem set_skip4 (a0 a1 a2 a3 d : V) (l : List V) (n : Nat) : (a0 :: a1 :: a2 :: a3 :: l).set (n + 4) d = a0 :: a1 :: a2 :: a3 :: l.set n d := rfl
theorem getD_skip16 (a0 a1 a2 a3 a4 a5 a6 a7 a8 a9 a10 a11 a12 a13 a14 a15 d : V) (l : List V) (n : Nat) : (a0 :: a1 :: a2 :: a3 :: a4 :: a5 :: a6 :: a7 :: a8 :: a9 :: a10 :: a11 :: a12 :: a13 :: a14 :: a15 :: l).getD (n + 16) d = l.getD n d := rfl
theorem set_skip16 (a0 a1 a2 a3 a4 a5 a6 a7 a8 a9 a10 a11 a12 a13 a14 a15 d : V) (l : List V) (n : Nat) : (a0 :: a1 :: a2 :: a3 :: a4 :: a5 :: a6 :: a7 :: a8 :: a9 :: a10 :: a11 :: a12 :: a13 :: a14 :: a15 :: l).set (n + 16) d = a0 :: a1 :: a2 :: a3 :: a4 :: a5 :: a6 :: a7 :: a8 :: a9 :: a10 :: a11 :: a12 :: a13 :: a14 :: a15 :: l.set n d := rfl
theorem getD_skip64 (a0 a1 a2 a3 a4 a5 a6 a7 a8 a9 a10 a11 a12 a13 a14 a15 a16 a17 a18 a19 a20 a21 a22 a23 a24 a25 a26 a27 a28 a29 a30 a31 a32 a33 a34 a35 a36 a37 a38 a39 a40 a41 a42 a43 a44 a45 a46 a47 a48 a49 a50 a51 a52 a53 a54 a55 a56 a57 a58 a59 a60 a61 a62 a63 d : V) (l : List V) (n : Nat) : (a0 :: a1 :: a2 :: a3 :: a4 :: a5 :: a6 :: a7 :: a8 :: a9 :: a10 :: a11 :: a12 :: a13 :: a14 :: a15 :: a16 :: a17 :: a18 :: a19 :: a20 :: a21 :: a22 :: a23 :: a24 :: a25 :: a26 :: a27 :: a28 :: a29 :: a30 :: a31 :: a32 :: a33 :: a34 :: a35 :: a36 :: a37 :: a38 :: a39 :: a40 :: a41 :: a42 :: a43 :: a44 :: a45 :: a46 :: a47 :: a48 :: a49 :: a50 :: a51 :: a52 :: a53 :: a54 :: a55 :: a56 :: a57 :: a58 :: a59 :: a60 :: a61 :: a62 :: a63 :: l).getD (n + 64) d = l.getD n d := rfl
theorem set_skip64 (a0 a1 a2 a3 a4 a5 a6 a7 a8 a9 a10 a11 a12 a13 a14 a15 a16 a17 a18 a19 a20 a21 a22 a23 a24 a25 a26 a27 a28 a29 a30 a31 a32 a33 a34 a35 a36 a37 a38 a39 a40 a41 a42 a43 a44 a45 a46 a47 a48 a49 a50 a51 a52 a53 a54 a55 a56 a57 a58 a59 a60 a61 a62 a63 d : V) (l : List V) (n : Nat) : (a0 :: a1 :: a2 :: a3 :: a4 :: a5 :: a6 :: a7 :: a8 :: a9 :: a10 :: a11 :: a12 :: a13 :: a14 :: a15 :: a16 :: a17 :: a18 :: a19 :: a20 :: a21 :: a22 :: a23 :: a24 :: a25 :: a26 :: a27 :: a28 :: a29 :: a30 :: a31 :: a32 :: a33 :: a34 :: a35 :: a36 :: a37 :: a38 :: a39 :: a40 :: a41 :: a42 :: a43 :: a44 :: a45 :: a46 :: a47 :: a48 :: a49 :: a50 :: a51 :: a52 :: a53 :: a54 :: a55 :: a56 :: a57 :: a58 :: a59 :: a60 :: a61 :: a62 :: a63 :: l).set (n + 64) d = a0 :: a1 :: a2 :: a3 :: a4 :: a5 :: a6 :: a7 :: a8 :: a9 :: a10 :: a11 :: a12 :: a13 :: a14 :: a15 :: a16 :: a17 :: a18 :: a19 :: a20 :: a21 :: a22 :: a23 :: a24 :: a25 :: a26 :: a27 :: a28 :: a29 :: a30 :: a31 :: a32 :: a33 :: a34 :: a35 :: a36 :: a37 :: a38 :: a39 :: a40 :: a41 :: a42 :: a43 :: a44 :: a45 :: a46 :: a47 :: a48 :: a49 :: a50 :: a51 :: a52 :: a53 :: a54 :: a55 :: a56 :: a57 :: a58 :: a59 :: a60 :: a61 :: a62 :: a63 :: l.set n d := rfl
attribute [go_sem 2000] getD_skip4 set_skip4
attribute [go_sem 3000] getD_skip16 set_skip16
attribute [go_sem 4000] getD_skip64 set_skip64
end Go.Proofs.YteomkgcepiecjaaGreat.I
/- Lists of plain data, as ideal values. -/
namespace Go.Proofs.YteomkgcepiecjaaGreat.I
open Go
@[go_sem] theorem most_eq : most = 1099511627776 := rfl
@[go_sem] theorem bmost_eq : bmost = 140737488355328 := rfl
@[go_sem] theorem longest_eq : longest = 9223372036854775807 := rfl
theorem mixed : Tryz.prog.follows .mixedOrders = true := Checked.mixed Tryz.checked
inductive Quiets (qs : List FuncId) : List (FuncId × Cn) → Prop
  | nil : Quiets qs []
  | cons {f : FuncId} {c : Cn} {l : List (FuncId × Cn)} : (qs.contains f = true → Quiet c) → Quiets qs l → Quiets qs ((f, c) :: l)
theorem Quiets.get {qs : List FuncId} {l : List (FuncId × Cn)} (h : Quiets qs l) (f : FuncId) (c : Cn) (hq : qs.contains f = true) (e : lk l f = some c) : Quiet c := by
  induction h with
  | nil => simp [lk] at e
  | cons hi _ ih =>
    simp only [lk] at e
    split at e
    · rename_i ht; subst ht; injection e with e; subst e; exact hi hq
    · exact ih e
inductive Mts (P : Program) : List (TypeId × String × FuncId) → Prop
  | nil : Mts P []
  | cons {t : TypeId} {m : String} {f : FuncId} {l : List (TypeId × String × FuncId)} : MtOk P t m f → Mts P l → Mts P ((t, m, f) :: l)
theorem Mts.get {P : Program} {l : List (TypeId × String × FuncId)} (h : Mts P l) (t : TypeId) (m : String) (f : FuncId) (e : lkM l t m = some f) : MtOk P t m f := by
  induction h with
  | nil => simp [lkM] at e
  | cons hi _ ih =>
    simp only [lkM] at e
    split at e
    · rename_i ht; obtain ⟨rfl, rfl⟩ := ht; injection e with e; subst e; exact hi
    · exact ih e
theorem cok_of {cx : Cx} (hT : cx.T = T) (hc : Kept' Tryz.prog cx.cs) (hq : Quiets cx.qs cx.cs) (hr : KeptR Tryz.prog cx.rs) (hE : cx.E = E := by rfl) (hm : Mts Tryz.prog cx.mt := by exact .nil) : COk Tryz.prog cx :=
  ⟨fun t i h => table_ok.get t i (by rw [hT] at h; exact h), fun f c h => hc.get f c h, fun f c h e => hq.get f c h e, fun f c h => hr.get f c h, fun t ks h => eqs_ok.get t ks (by rw [hE] at h; exact h), fun t m f h => hm.get t m f h⟩
@[go_sem] theorem om_put_put (om : Om) (id : Nat) (a b : List V) : (om.put id a).put id b = om.put id b := by
  funext k; simp only [Om.put]; split <;> rfl
theorem om_put_comm (om : Om) {i j : Nat} (h : i ≠ j) (a b : List V) : (om.put i a).put j b = (om.put j b).put i a := by
  funext k; simp only [Om.put]
  by_cases e : k = j
  · subst e
    have : ¬ k = i := fun x => h x.symm
    simp [this]
  · simp [e]
class Cell1 {α : Type} (e : α → V) : Prop where
  cl : ∀ x, (e x).clean = true
  wi : ∀ hs x, (e x).within hs = true
  ft : ∀ x, (e x).fits 1 false = true
  inj : ∀ x y, e x = e y → x = y
instance (k : IntKind) : Cell1 (V.n k) := ⟨fun _ => rfl, fun _ _ => rfl, fun _ => rfl, fun _ _ h => by injection h⟩
instance : Cell1 V.b := ⟨fun _ => rfl, fun _ _ => rfl, fun _ => rfl, fun _ _ h => by injection h⟩
def els {α : Type} (e : α → V) (xs : List α) : List V := xs.map e
section
variable {α : Type} (e : α → V)
@[go_sem] theorem els_len (xs : List α) : (els e xs).length = xs.length := by simp [els]
@[go_sem] theorem els_take (xs : List α) (i : Nat) : (els e xs).take i = els e (xs.take i) := by simp [els]
@[go_sem] theorem els_drop (xs : List α) (i : Nat) : (els e xs).drop i = els e (xs.drop i) := by simp [els]
@[go_sem] theorem els_append (xs ys : List α) : els e xs ++ els e ys = els e (xs ++ ys) := by simp [els]
@[go_sem] theorem map_zs (k : IntKind) (n : Nat) : (zs n).map (V.n k) = els (V.n k) (zs n) := rfl
@[go_sem] theorem zs_len (n : Nat) : (zs n).length = n := by simp [zs]
theorem els_getD (xs : List α) (i : Nat) (d : α) : (els e xs).getD i (e d) = e (xs.getD i d) := by
  simp only [els, List.getD_eq_getElem?_getD, List.getElem?_map]
  cases xs[i]? <;> rfl
@[go_sem] theorem els_nil : els e [] = [] := rfl
@[go_sem] theorem els_cons (x : α) (xs : List α) : els e (x :: xs) = e x :: els e xs := rfl
theorem els_set (xs : List α) (i : Nat) (x : α) : (els e xs).set i (e x) = els e (xs.set i x) := by simp [els, List.map_set]
theorem els_replicate (n : Nat) (x : α) : List.replicate n (e x) = els e (List.replicate n x) := by simp [els]
theorem els_snoc (xs : List α) (x : α) : els e xs ++ [e x] = els e (xs ++ [x]) := by simp [els]
@[go_sem] theorem els_isEmpty (xs : List α) : (els e xs).isEmpty = xs.isEmpty := by simp [els]
@[go_sem] theorem els_eq_nil (xs : List α) : (els e xs = []) = (xs = []) := by simp [els]
@[go_sem] theorem nil_eq_els (xs : List α) : ([] = els e xs) = (xs = []) := by simp [els, eq_comm]
variable [c : Cell1 e]
@[go_sem] theorem els_uni (xs : List α) : uni 1 false (els e xs) = true := by simp [uni, els, c.ft]
@[go_sem] theorem els_all (xs : List α) : (els e xs).all (V.fits 1 false) = true := els_uni e xs
@[go_sem] theorem els_clean (xs : List α) : cleans (els e xs) = true := by
  rw [cleans_iff]; intro x hx
  obtain ⟨n, _, rfl⟩ := List.mem_map.1 hx; exact c.cl n
@[go_sem] theorem els_within (hs : List Nat) (xs : List α) : withins hs (els e xs) = true := by
  rw [withins_iff]; intro x hx
  obtain ⟨n, _, rfl⟩ := List.mem_map.1 hx; exact c.wi hs n
@[go_sem] theorem els_inj (xs ys : List α) : (els e xs = els e ys) = (xs = ys) := by
  apply propext
  unfold els
  constructor
  · intro h; exact (List.map_inj_right (fun a b h => c.inj a b h)).mp h
  · rintro rfl; rfl
end
@[go_sem] theorem els_getD_n (k : IntKind) (xs : List Nat) (i d : Nat) : (els (V.n k) xs).getD i (.n k d) = .n k (xs.getD i d) := els_getD _ _ _ _
@[go_sem] theorem els_getD_z (xs : List Int) (i : Nat) (d : Int) : (els V.z xs).getD i (.z d) = .z (xs.getD i d) := els_getD _ _ _ _
@[go_sem] theorem els_getD_b (xs : List Bool) (i : Nat) (d : Bool) : (els V.b xs).getD i (.b d) = .b (xs.getD i d) := els_getD _ _ _ _
@[go_sem] theorem els_set_n (k : IntKind) (xs : List Nat) (i x : Nat) : (els (V.n k) xs).set i (.n k x) = els (V.n k) (xs.set i x) := els_set _ _ _ _
@[go_sem] theorem els_set_z (xs : List Int) (i : Nat) (x : Int) : (els V.z xs).set i (.z x) = els V.z (xs.set i x) := els_set _ _ _ _
@[go_sem] theorem els_set_b (xs : List Bool) (i : Nat) (x : Bool) : (els V.b xs).set i (.b x) = els V.b (xs.set i x) := els_set _ _ _ _
@[go_sem] theorem els_rep_n (k : IntKind) (n x : Nat) : List.replicate n (V.n k x) = els (V.n k) (List.replicate n x) := els_replicate _ _ _
@[go_sem] theorem els_rep_z (n : Nat) (x : Int) : List.replicate n (V.z x) = els V.z (List.replicate n x) := els_replicate _ _ _
@[go_sem] theorem els_rep_b (n : Nat) (x : Bool) : List.replicate n (V.b x) = els V.b (List.replicate n x) := els_replicate _ _ _
@[go_sem] theorem els_snoc_n (k : IntKind) (xs : List Nat) (x : Nat) : els (V.n k) xs ++ [.n k x] = els (V.n k) (xs ++ [x]) := els_snoc _ _ _
@[go_sem] theorem els_snoc_z (xs : List Int) (x : Int) : els V.z xs ++ [.z x] = els V.z (xs ++ [x]) := els_snoc _ _ _
@[go_sem] theorem els_snoc_b (xs : List Bool) (x : Bool) : els V.b xs ++ [.b x] = els V.b (xs ++ [x]) := els_snoc _ _ _
theorem wf_n (k : IntKind) (xs : List Nat) : wfs (els (V.n k) xs) ↔ ∀ x ∈ xs, x < 2 ^ k.bits := by
  rw [wfs_iff]
  constructor
  · intro h x hx; exact h _ (List.mem_map.2 ⟨x, hx, rfl⟩)
  · intro h y hy
    obtain ⟨n, hn, rfl⟩ := List.mem_map.1 hy
    exact h n hn
def decs {α : Type} (A : Ty α) : List V → Option (List α)
  | [] => some []
  | v :: vs => match A.dec v, decs A vs with
    | some x, some xs => some (x :: xs)
    | _, _ => none
theorem decs_els {α : Type} (A : Ty α) (xs : List α) : decs A (els A.enc xs) = some xs := by
  induction xs with
  | nil => rfl
  | cons x xs ih => rw [els_cons, decs, A.h1, ih]
theorem els_decs {α : Type} (A : Ty α) : ∀ (vs : List V) (xs : List α), decs A vs = some xs → vs = els A.enc xs
  | [], xs, h => by injection h with h; subst h; rfl
  | v :: vs, xs, h => by
    simp only [decs] at h
    split at h
    · rename_i x ys h1 h2
      injection h with h; subst h
      rw [els_cons, ← A.h2 _ _ h1, ← els_decs A vs ys h2]
    · cases h
def tL {α : Type} (A : Ty α) : Ty (List α) where
  enc := fun xs => .sl (els A.enc xs)
  dec := fun | .sl vs => decs A vs | _ => none
  h1 := fun xs => decs_els A xs
  h2 := fun v xs h => by
    cases v <;> simp only [reduceCtorEq] at h
    rw [els_decs A _ _ h]
abbrev tU : Ty (List Nat) := tL (tN .u64)
abbrev tBs : Ty (List Bool) := tL tB
@[go_sem] theorem tLn_enc (k : IntKind) (xs : List Nat) : (tL (tN k)).enc xs = .sl (els (V.n k) xs) := rfl
@[go_sem] theorem tLz_enc (xs : List Int) : (tL tZ).enc xs = .sl (els V.z xs) := rfl
@[go_sem] theorem tLb_enc (xs : List Bool) : (tL tB).enc xs = .sl (els V.b xs) := rfl
@[go_sem] theorem tL_dec {α : Type} (A : Ty α) (vs : List V) : (tL A).dec (.sl vs) = decs A vs := rfl
@[go_sem] theorem decs_n (k : IntKind) (xs : List Nat) : decs (tN k) (els (V.n k) xs) = some xs := decs_els _ _
@[go_sem] theorem decs_z (xs : List Int) : decs tZ (els V.z xs) = some xs := decs_els _ _
@[go_sem] theorem decs_b (xs : List Bool) : decs tB (els V.b xs) = some xs := decs_els _ _
@[go_sem] theorem decs_nil {α : Type} (A : Ty α) : decs A [] = some [] := rfl
attribute [go_sem] decs.eq_2
theorem wf_u {xs : List Nat} (h : wfs [V.sl (els (V.n .u64) xs)]) : xs.length ≤ longest ∧ ∀ x ∈ xs, x < 18446744073709551616 := by
  obtain ⟨⟨h1, h2⟩, _⟩ := h
  rw [els_len] at h1
  exact ⟨h1, (wf_n .u64 xs).1 h2⟩
attribute [go_sem] Int.cast_ofNat_Int Int.natCast_zero List.contains_cons List.contains_nil Bool.or_false Bool.or_true Bool.true_or or_false or_true false_or true_or and_false false_and ne_eq List.take_zero List.take_succ_cons List.take_nil List.drop_zero List.drop_succ_cons List.drop_nil decide_true decide_false
attribute [go_sem] Hm.mk.injEq List.take_length List.append_eq true_or or_true
def filled {α : Type} (n k : Nat) (g : Nat → α) (z : α) : List α := (List.range n).map fun i => if i < k then g i else z
section
variable {α : Type} (n k : Nat) (g : Nat → α) (z : α)
@[go_sem] theorem filled_len : (filled n k g z).length = n := by simp [filled]
@[go_sem] theorem filled_take : (filled n k g z).take n = filled n k g z := by rw [List.take_of_length_le]; simp [filled]
theorem filled_zero : filled n 0 g z = List.replicate n z := by
  apply List.ext_getElem <;> simp [filled]
theorem filled_all : filled n n g z = (List.range n).map g := by
  apply List.ext_getElem
  · simp [filled]
  · intro i h1 h2; simp [filled] at h1 ⊢; omega
theorem filled_set : (filled n k g z).set k (g k) = filled n (k + 1) g z := by
  apply List.ext_getElem
  · simp [filled]
  · intro i h1 h2
    simp [filled] at h1 ⊢
    rw [List.getElem_set]
    by_cases e : k = i
    · subst e; simp
    · have : (i < k) ↔ (i < k + 1) := by omega
      simp [e, this]
end
end Go.Proofs.YteomkgcepiecjaaGreat.I
/- Lending: a function that is asked with lists may be asked with rows of their own, where it tells plain data. -/
namespace Go.Proofs.YteomkgcepiecjaaGreat.I
open Go
set_option linter.unusedVariables false
set_option linter.unusedSimpArgs false
theorem okR_of_body {P : Program} {cx : Nat → Cn → Cx} (C : ∀ l cy, COk P (cx l cy)) (hx : P.follows .mixedOrders = true) {f : FuncId} {fn : Func} {code : Code} (hf : P.funcs[f]? = some fn) (hb : fn.body = some code) (hn : (fn.name == "runtime.NumGoroutine") = false) (hg : ∀ l cy, okCode (cx l cy) code = true)
    (hy : ∀ l cy, (cx l cy).y = some (l, cy)) {rc : Cn → Cn}
    (h : ∀ l cy caps om (Q : V → Om → Prop), Mono cy → wfs caps → @rc cy caps om ⟨Q⟩ → body (cx l cy) fn code (.fn (.yield l) [] [] :: caps) om fun v om' => ∃ om'', OmKept om'' om' ∧ Q v om'') : OkR P f rc where
  run := run_of hf hb hn
  tells := fun l cy X om caps vs Q Y G hr hcl hc => by
    have hr' : RepL X (.func (.yield l) #[] #[] :: vs) (.fn (.yield l) [] [] :: caps) := .cons (.fn _ #[] [] #[] [] rfl rfl (fun k h => by simp at h) (fun k h => by simp at h)) hr
    have hY : ∀ l' c, (cx l cy).y = some (l', c) → YOk P ⟨X.w, X.S, om, []⟩ l' c := fun l' c e => by
      rw [hy] at e; injection e with e; injection e with e1 e2; subst e1 e2; exact Y
    have := (body_tells (C l cy) hx hf hb (hg l cy) hY G hr' (by simp [cleans, V.clean, hcl]) (h l cy caps om Q Y.mono hr.wfs hc)).less fun _ _ h => h
    have e : (#[.func (.yield l) #[] #[]] ++ vs.toArray : Array Value) = (.func (.yield l) #[] #[] :: vs).toArray := by apply Array.ext'; simp
    rw [e]; exact this
def fn3j {α β γ : Type} (A : Ty α) (B : Ty β) (D : Ty γ) (pre q r : α → β → γ → Prop) [∀ x y z, Decidable (q x y z)] [∀ x y z, Decidable (r x y z)] (f g h : α → β → γ → V) : Cn
  | [a, b, c], om, K => @so _ (A.dec a) ⟨fun x => @so _ (B.dec b) ⟨fun y => @so _ (D.dec c) ⟨fun z => pre x y z ∧ @spl (decide (q x y z)) ⟨K.k (f x y z) om⟩ ⟨@spl (decide (r x y z)) ⟨K.k (g x y z) om⟩ ⟨K.k (h x y z) om⟩⟩⟩⟩⟩
  | _, _, _ => False
attribute [go_sem] fn3j.eq_1
section
variable {α β γ : Type} {A : Ty α} {B : Ty β} {D : Ty γ} {pre q r : α → β → γ → Prop} [∀ x y z, Decidable (q x y z)] [∀ x y z, Decidable (r x y z)] {f g h : α → β → γ → V}
theorem fn3j_mono : Mono (fn3j A B D pre q r f g h) := by
  intro args om K K' hK h
  unfold fn3j at h ⊢
  split at h
  · exact mono_so (fun _ h => mono_so (fun _ h => mono_so (fun _ h => ⟨h.1, mono_spl (hK _ _) (mono_spl (hK _ _) (hK _ _)) h.2⟩) h) h) h
  · exact h.elim
theorem fn3j_quiet : Quiet (fn3j A B D pre q r f g h) := by
  intro args om K h
  unfold fn3j at h ⊢
  split at h
  · exact mono_so (fun _ h => mono_so (fun _ h => mono_so (fun _ h => ⟨h.1, mono_spl (fun g => ⟨.refl _, g⟩) (mono_spl (fun g => ⟨.refl _, g⟩) (fun g => ⟨.refl _, g⟩)) h.2⟩) h) h) h
  · exact h.elim
theorem ok_fn3j {P : Program} {n : FuncId} (o : Ok P n (fn3 A B D pre fun x y z => if q x y z then f x y z else if r x y z then g x y z else h x y z)) : Ok P n (fn3j A B D pre q r f g h) := by
  refine Ok.weak fn3j_mono (fun args om K hh => ?_) o
  unfold fn3j at hh
  unfold fn3
  split at hh
  · refine mono_so (fun x hh => mono_so (fun y hh => mono_so (fun z hh => ⟨hh.1, ?_⟩) hh) hh) hh
    show @C2.k V Om ⟨K⟩ (if q x y z then f x y z else if r x y z then g x y z else h x y z) _
    rcases Decidable.em (q x y z) with e | e
    · rw [if_pos e]; exact hh.2.1 (decide_eq_true e)
    · rw [if_neg e]
      have h2 := hh.2.2 (decide_eq_false e)
      rcases Decidable.em (r x y z) with e' | e'
      · rw [if_pos e']; exact h2.1 (decide_eq_true e')
      · rw [if_neg e']; exact h2.2 (decide_eq_false e')
  · exact hh.elim
end
@[go_sem] theorem fillIn_nil (l : List V) : fillIn l [] [] = l := rfl
@[go_sem] theorem flat_els' {α : Type} (e : α → V) [c : Cell1 e] (xs : List α) : flat (els e xs) = els e xs := flat_one (els_uni e xs)
theorem new_iff {x : Option (List V)} {i j : Nat} {cs : List V} : ((if j = i then some cs else x) = none) = (¬ j = i ∧ ¬ i = j ∧ x = none) := by
  apply propext
  by_cases h : j = i
  · simp [h]
  · simp [h, Ne.symm h]
end Go.Proofs.YteomkgcepiecjaaGreat.I
