/- Contracts of functions that tell a value and leave all objects as they are; how they are shown. -/
import Derived.Test.YtaojebdjkpdcdaaTok
namespace Go.Proofs.Ytaojebdjkpdcdaa.I
open Go
set_option linter.unusedSectionVars false

attribute [go_sem] sliceS.eq_def bnd.eq_def Option.isNone_none Option.isNone_some Option.isSome_some Option.isSome_none

/-- A kind of plain data, as ideal values. -/
structure Ty (α : Type) where
  enc : α → V
  dec : V → Option α
  h1 : ∀ a, dec (enc a) = some a
  h2 : ∀ v a, dec v = some a → v = enc a

noncomputable def Ty.by {α : Type} (enc : α → V) (inj : ∀ a b, enc a = enc b → a = b) : Ty α := by
  classical exact
    { enc := enc
      dec := fun v => if h : ∃ a, v = enc a then some h.choose else none
      h1 := fun a => by
        have h : ∃ b, enc a = enc b := ⟨a, rfl⟩
        have e := inj _ _ h.choose_spec
        rw [dif_pos h]; exact congrArg some e.symm
      h2 := fun v a e => by
        split at e
        · rename_i h'; injection e with e; rw [← e]; exact h'.choose_spec
        · cases e }

def fn0 (f : V) : Cn
  | [], om, K => K.k f om
  | _, _, _ => False
def fn1 {α : Type} (A : Ty α) (pre : α → Prop) (f : α → V) : Cn
  | [a], om, K => @so _ (A.dec a) ⟨fun x => pre x ∧ K.k (f x) om⟩
  | _, _, _ => False
def fn2 {α β : Type} (A : Ty α) (B : Ty β) (pre : α → β → Prop) (f : α → β → V) : Cn
  | [a, b], om, K => @so _ (A.dec a) ⟨fun x => @so _ (B.dec b) ⟨fun y => pre x y ∧ K.k (f x y) om⟩⟩
  | _, _, _ => False
def fn3 {α β γ : Type} (A : Ty α) (B : Ty β) (C : Ty γ) (pre : α → β → γ → Prop) (f : α → β → γ → V) : Cn
  | [a, b, c], om, K => @so _ (A.dec a) ⟨fun x => @so _ (B.dec b) ⟨fun y => @so _ (C.dec c) ⟨fun z => pre x y z ∧ K.k (f x y z) om⟩⟩⟩
  | _, _, _ => False
def fn4 {α β γ δ : Type} (A : Ty α) (B : Ty β) (C : Ty γ) (D : Ty δ) (pre : α → β → γ → δ → Prop) (f : α → β → γ → δ → V) : Cn
  | [a, b, c, d], om, K => @so _ (A.dec a) ⟨fun x => @so _ (B.dec b) ⟨fun y => @so _ (C.dec c) ⟨fun z => @so _ (D.dec d) ⟨fun w => pre x y z w ∧ K.k (f x y z w) om⟩⟩⟩⟩
  | _, _, _ => False
attribute [go_sem] fn0.eq_1 fn1.eq_1 fn2.eq_1 fn3.eq_1 fn4.eq_1

theorem mono_so {α : Type} {x : Option α} {F F' : α → Prop} (h : ∀ a, F a → F' a) (hh : @so α x ⟨F⟩) : @so α x ⟨F'⟩ := by
  obtain ⟨a, e, ha⟩ := so_inv hh
  exact so_of e (h a ha)

theorem fn0_mono {f : V} : Mono (fn0 f) := by
  intro args om K K' hK h
  unfold fn0 at h ⊢
  split at h
  · exact hK _ _ h
  · exact h.elim
theorem fn1_mono {α : Type} {A : Ty α} {pre : α → Prop} {f : α → V} : Mono (fn1 A pre f) := by
  intro args om K K' hK h
  unfold fn1 at h ⊢
  split at h
  · exact mono_so (fun x h => ⟨h.1, hK _ _ h.2⟩) h
  · exact h.elim
theorem fn2_mono {α β : Type} {A : Ty α} {B : Ty β} {pre : α → β → Prop} {f : α → β → V} : Mono (fn2 A B pre f) := by
  intro args om K K' hK h
  unfold fn2 at h ⊢
  split at h
  · exact mono_so (fun x h => mono_so (fun y h => ⟨h.1, hK _ _ h.2⟩) h) h
  · exact h.elim
theorem fn3_mono {α β γ : Type} {A : Ty α} {B : Ty β} {C : Ty γ} {pre : α → β → γ → Prop} {f : α → β → γ → V} : Mono (fn3 A B C pre f) := by
  intro args om K K' hK h
  unfold fn3 at h ⊢
  split at h
  · exact mono_so (fun x h => mono_so (fun y h => mono_so (fun z h => ⟨h.1, hK _ _ h.2⟩) h) h) h
  · exact h.elim
theorem fn4_mono {α β γ δ : Type} {A : Ty α} {B : Ty β} {C : Ty γ} {D : Ty δ} {pre : α → β → γ → δ → Prop} {f : α → β → γ → δ → V} : Mono (fn4 A B C D pre f) := by
  intro args om K K' hK h
  unfold fn4 at h ⊢
  split at h
  · exact mono_so (fun x h => mono_so (fun y h => mono_so (fun z h => mono_so (fun w h => ⟨h.1, hK _ _ h.2⟩) h) h) h) h
  · exact h.elim

theorem fn0_quiet {f : V} : Quiet (fn0 f) := by
  intro args om K h
  unfold fn0 at h ⊢
  split at h
  · exact ⟨.refl _, h⟩
  · exact h.elim
theorem fn1_quiet {α : Type} {A : Ty α} {pre : α → Prop} {f : α → V} : Quiet (fn1 A pre f) := by
  intro args om K h
  unfold fn1 at h ⊢
  split at h
  · exact mono_so (fun x h => ⟨h.1, .refl _, h.2⟩) h
  · exact h.elim
theorem fn2_quiet {α β : Type} {A : Ty α} {B : Ty β} {pre : α → β → Prop} {f : α → β → V} : Quiet (fn2 A B pre f) := by
  intro args om K h
  unfold fn2 at h ⊢
  split at h
  · exact mono_so (fun x h => mono_so (fun y h => ⟨h.1, .refl _, h.2⟩) h) h
  · exact h.elim
theorem fn3_quiet {α β γ : Type} {A : Ty α} {B : Ty β} {C : Ty γ} {pre : α → β → γ → Prop} {f : α → β → γ → V} : Quiet (fn3 A B C pre f) := by
  intro args om K h
  unfold fn3 at h ⊢
  split at h
  · exact mono_so (fun x h => mono_so (fun y h => mono_so (fun z h => ⟨h.1, .refl _, h.2⟩) h) h) h
  · exact h.elim
theorem fn4_quiet {α β γ δ : Type} {A : Ty α} {B : Ty β} {C : Ty γ} {D : Ty δ} {pre : α → β → γ → δ → Prop} {f : α → β → γ → δ → V} : Quiet (fn4 A B C D pre f) := by
  intro args om K h
  unfold fn4 at h ⊢
  split at h
  · exact mono_so (fun x h => mono_so (fun y h => mono_so (fun z h => mono_so (fun w h => ⟨h.1, .refl _, h.2⟩) h) h) h) h
  · exact h.elim

theorem mono_spl {x : Bool} {A B A' B' : Prop} (h : A → A') (h' : B → B') (g : @spl x ⟨A⟩ ⟨B⟩) : @spl x ⟨A'⟩ ⟨B'⟩ := ⟨fun e => h (g.1 e), fun e => h' (g.2 e)⟩
theorem spl_of {p : Prop} [Decidable p] {A B : Prop} (h : p → A) (h' : ¬p → B) : @spl (decide p) ⟨A⟩ ⟨B⟩ := ⟨fun e => h (of_decide_eq_true e), fun e => h' (of_decide_eq_false e)⟩
def fn1i {α : Type} (A : Ty α) (pre : α → Prop) (q : α → Prop) [∀ x, Decidable (q x)] (f g : α → V) : Cn
  | [a], om, K => @so _ (A.dec a) ⟨fun x => pre x ∧ @spl (decide (q x)) ⟨K.k (f x) om⟩ ⟨K.k (g x) om⟩⟩
  | _, _, _ => False
theorem fn1i_mono {α : Type} {A : Ty α} {pre q : α → Prop} [∀ x, Decidable (q x)] {f g : α → V} : Mono (fn1i A pre q f g) := by
  intro args om K K' hK h
  unfold fn1i at h ⊢
  split at h
  · exact mono_so (fun x h => ⟨h.1, mono_spl (hK _ _) (hK _ _) h.2⟩) h
  · exact h.elim
theorem fn1i_quiet {α : Type} {A : Ty α} {pre q : α → Prop} [∀ x, Decidable (q x)] {f g : α → V} : Quiet (fn1i A pre q f g) := by
  intro args om K h
  unfold fn1i at h ⊢
  split at h
  · exact mono_so (fun x h => ⟨h.1, mono_spl (fun g => ⟨.refl _, g⟩) (fun g => ⟨.refl _, g⟩) h.2⟩) h
  · exact h.elim
def fn2i {α β : Type} (A : Ty α) (B : Ty β) (pre : α → β → Prop) (q : α → β → Prop) [∀ x y, Decidable (q x y)] (f g : α → β → V) : Cn
  | [a, b], om, K => @so _ (A.dec a) ⟨fun x => @so _ (B.dec b) ⟨fun y => pre x y ∧ @spl (decide (q x y)) ⟨K.k (f x y) om⟩ ⟨K.k (g x y) om⟩⟩⟩
  | _, _, _ => False
theorem fn2i_mono {α β : Type} {A : Ty α} {B : Ty β} {pre q : α → β → Prop} [∀ x y, Decidable (q x y)] {f g : α → β → V} : Mono (fn2i A B pre q f g) := by
  intro args om K K' hK h
  unfold fn2i at h ⊢
  split at h
  · exact mono_so (fun x h => mono_so (fun y h => ⟨h.1, mono_spl (hK _ _) (hK _ _) h.2⟩) h) h
  · exact h.elim
theorem fn2i_quiet {α β : Type} {A : Ty α} {B : Ty β} {pre q : α → β → Prop} [∀ x y, Decidable (q x y)] {f g : α → β → V} : Quiet (fn2i A B pre q f g) := by
  intro args om K h
  unfold fn2i at h ⊢
  split at h
  · exact mono_so (fun x h => mono_so (fun y h => ⟨h.1, mono_spl (fun g => ⟨.refl _, g⟩) (fun g => ⟨.refl _, g⟩) h.2⟩) h) h
  · exact h.elim
def fn3i {α β γ : Type} (A : Ty α) (B : Ty β) (D : Ty γ) (pre : α → β → γ → Prop) (q : α → β → γ → Prop) [∀ x y z, Decidable (q x y z)] (f g : α → β → γ → V) : Cn
  | [a, b, c], om, K => @so _ (A.dec a) ⟨fun x => @so _ (B.dec b) ⟨fun y => @so _ (D.dec c) ⟨fun z => pre x y z ∧ @spl (decide (q x y z)) ⟨K.k (f x y z) om⟩ ⟨K.k (g x y z) om⟩⟩⟩⟩
  | _, _, _ => False
theorem fn3i_mono {α β γ : Type} {A : Ty α} {B : Ty β} {D : Ty γ} {pre q : α → β → γ → Prop} [∀ x y z, Decidable (q x y z)] {f g : α → β → γ → V} : Mono (fn3i A B D pre q f g) := by
  intro args om K K' hK h
  unfold fn3i at h ⊢
  split at h
  · exact mono_so (fun x h => mono_so (fun y h => mono_so (fun z h => ⟨h.1, mono_spl (hK _ _) (hK _ _) h.2⟩) h) h) h
  · exact h.elim
theorem fn3i_quiet {α β γ : Type} {A : Ty α} {B : Ty β} {D : Ty γ} {pre q : α → β → γ → Prop} [∀ x y z, Decidable (q x y z)] {f g : α → β → γ → V} : Quiet (fn3i A B D pre q f g) := by
  intro args om K h
  unfold fn3i at h ⊢
  split at h
  · exact mono_so (fun x h => mono_so (fun y h => mono_so (fun z h => ⟨h.1, mono_spl (fun g => ⟨.refl _, g⟩) (fun g => ⟨.refl _, g⟩) h.2⟩) h) h) h
  · exact h.elim
def fn4i {α β γ δ : Type} (A : Ty α) (B : Ty β) (D : Ty γ) (E : Ty δ) (pre : α → β → γ → δ → Prop) (q : α → β → γ → δ → Prop) [∀ x y z w, Decidable (q x y z w)] (f g : α → β → γ → δ → V) : Cn
  | [a, b, c, d], om, K => @so _ (A.dec a) ⟨fun x => @so _ (B.dec b) ⟨fun y => @so _ (D.dec c) ⟨fun z => @so _ (E.dec d) ⟨fun w => pre x y z w ∧ @spl (decide (q x y z w)) ⟨K.k (f x y z w) om⟩ ⟨K.k (g x y z w) om⟩⟩⟩⟩⟩
  | _, _, _ => False
theorem fn4i_mono {α β γ δ : Type} {A : Ty α} {B : Ty β} {D : Ty γ} {E : Ty δ} {pre q : α → β → γ → δ → Prop} [∀ x y z w, Decidable (q x y z w)] {f g : α → β → γ → δ → V} : Mono (fn4i A B D E pre q f g) := by
  intro args om K K' hK h
  unfold fn4i at h ⊢
  split at h
  · exact mono_so (fun x h => mono_so (fun y h => mono_so (fun z h => mono_so (fun w h => ⟨h.1, mono_spl (hK _ _) (hK _ _) h.2⟩) h) h) h) h
  · exact h.elim
theorem fn4i_quiet {α β γ δ : Type} {A : Ty α} {B : Ty β} {D : Ty γ} {E : Ty δ} {pre q : α → β → γ → δ → Prop} [∀ x y z w, Decidable (q x y z w)] {f g : α → β → γ → δ → V} : Quiet (fn4i A B D E pre q f g) := by
  intro args om K h
  unfold fn4i at h ⊢
  split at h
  · exact mono_so (fun x h => mono_so (fun y h => mono_so (fun z h => mono_so (fun w h => ⟨h.1, mono_spl (fun g => ⟨.refl _, g⟩) (fun g => ⟨.refl _, g⟩) h.2⟩) h) h) h) h
  · exact h.elim
attribute [go_sem] fn1i.eq_1 fn2i.eq_1 fn3i.eq_1 fn4i.eq_1

/-- What is left to show: the value, and that no object has changed. -/
def Same (om : Om) (v : V) : V → Om → Prop := fun r om' => OmKept om om' ∧ r = v
@[go_sem] theorem Same_eq (om om' : Om) (v r : V) : Same om v r om' = (OmKept om om' ∧ r = v) := rfl
theorem same_if_pos {cx : Cx} {fn : Func} {code : Code} {args : List V} {om : Om} {p : Prop} [Decidable p] {a b : V} (hp : p) (h : body cx fn code args om (Same om (if p then a else b))) : body cx fn code args om (Same om a) := by rwa [if_pos hp] at h
theorem same_if_neg {cx : Cx} {fn : Func} {code : Code} {args : List V} {om : Om} {p : Prop} [Decidable p] {a b : V} (hp : ¬p) (h : body cx fn code args om (Same om (if p then a else b))) : body cx fn code args om (Same om b) := by rwa [if_neg hp] at h
section
variable {P : Program} {cx : Cx} (C : COk P cx) (hx : P.follows .mixedOrders = true) {f : FuncId} {fn : Func} {code : Code} (hf : P.funcs[f]? = some fn) (hb : fn.body = some code) (hn : (fn.name == "runtime.NumGoroutine") = false) (hg : okCode cx code = true) (hy : cx.y = none)
include C hx hf hb hn hg hy

theorem tells_same {X : Lay} {om : Om} {args : List V} {vs : List Value} {v : V} {Q : V → Om → Prop} (G : Good X om) (hr : RepL X vs args) (hcl : cleans args = true) (hQ : Q v om) (h : body cx fn code args om (Same om v)) : Tells P f X om vs.toArray Q :=
  (body_tells C hx hf hb hg (fun l c e => by rw [hy] at e; cases e) G hr hcl h).less fun r om' h => ⟨om, h.1, by rw [h.2]; exact hQ⟩

theorem ok_fn0 {g : V} (h : ∀ om, body cx fn code [] om (Same om g)) : Ok P f (fn0 g) where
  mono := fn0_mono
  run := run_of hf hb hn
  tells := fun X om args vs Q G hr hcl hc => by
    unfold fn0 at hc
    split at hc
    · exact tells_same C hx hf hb hn hg hy G hr hcl hc (h _)
    · exact hc.elim

theorem ok_fn1 {α : Type} {A : Ty α} {pre : α → Prop} {g : α → V} (h : ∀ x om, wfs [A.enc x] → pre x → body cx fn code [A.enc x] om (Same om (g x))) : Ok P f (fn1 A pre g) where
  mono := fn1_mono
  run := run_of hf hb hn
  tells := fun X om args vs Q G hr hcl hc => by
    unfold fn1 at hc
    split at hc
    · replace hc := so_inv hc; obtain ⟨x, e, hp, hc⟩ := hc
      obtain rfl := A.h2 _ _ e
      exact tells_same C hx hf hb hn hg hy G hr hcl hc (h _ _ hr.wfs hp)
    · exact hc.elim

theorem ok_fn2 {α β : Type} {A : Ty α} {B : Ty β} {pre : α → β → Prop} {g : α → β → V} (h : ∀ x y om, wfs [A.enc x, B.enc y] → pre x y → body cx fn code [A.enc x, B.enc y] om (Same om (g x y))) : Ok P f (fn2 A B pre g) where
  mono := fn2_mono
  run := run_of hf hb hn
  tells := fun X om args vs Q G hr hcl hc => by
    unfold fn2 at hc
    split at hc
    · replace hc := so_inv hc; obtain ⟨x, e, hc⟩ := hc
      obtain rfl := A.h2 _ _ e
      replace hc := so_inv hc; obtain ⟨y, e, hp, hc⟩ := hc
      obtain rfl := B.h2 _ _ e
      exact tells_same C hx hf hb hn hg hy G hr hcl hc (h _ _ _ hr.wfs hp)
    · exact hc.elim

theorem ok_fn3 {α β γ : Type} {A : Ty α} {B : Ty β} {D : Ty γ} {pre : α → β → γ → Prop} {g : α → β → γ → V} (h : ∀ x y z om, wfs [A.enc x, B.enc y, D.enc z] → pre x y z → body cx fn code [A.enc x, B.enc y, D.enc z] om (Same om (g x y z))) : Ok P f (fn3 A B D pre g) where
  mono := fn3_mono
  run := run_of hf hb hn
  tells := fun X om args vs Q G hr hcl hc => by
    unfold fn3 at hc
    split at hc
    · replace hc := so_inv hc; obtain ⟨x, e, hc⟩ := hc
      obtain rfl := A.h2 _ _ e
      replace hc := so_inv hc; obtain ⟨y, e, hc⟩ := hc
      obtain rfl := B.h2 _ _ e
      replace hc := so_inv hc; obtain ⟨z, e, hp, hc⟩ := hc
      obtain rfl := D.h2 _ _ e
      exact tells_same C hx hf hb hn hg hy G hr hcl hc (h _ _ _ _ hr.wfs hp)
    · exact hc.elim

theorem ok_fn4 {α β γ δ : Type} {A : Ty α} {B : Ty β} {D : Ty γ} {E : Ty δ} {pre : α → β → γ → δ → Prop} {g : α → β → γ → δ → V} (h : ∀ x y z u om, wfs [A.enc x, B.enc y, D.enc z, E.enc u] → pre x y z u → body cx fn code [A.enc x, B.enc y, D.enc z, E.enc u] om (Same om (g x y z u))) : Ok P f (fn4 A B D E pre g) where
  mono := fn4_mono
  run := run_of hf hb hn
  tells := fun X om args vs Q G hr hcl hc => by
    unfold fn4 at hc
    split at hc
    · replace hc := so_inv hc; obtain ⟨x, e, hc⟩ := hc
      obtain rfl := A.h2 _ _ e
      replace hc := so_inv hc; obtain ⟨y, e, hc⟩ := hc
      obtain rfl := B.h2 _ _ e
      replace hc := so_inv hc; obtain ⟨z, e, hc⟩ := hc
      obtain rfl := D.h2 _ _ e
      replace hc := so_inv hc; obtain ⟨u, e, hp, hc⟩ := hc
      obtain rfl := E.h2 _ _ e
      exact tells_same C hx hf hb hn hg hy G hr hcl hc (h _ _ _ _ _ hr.wfs hp)
    · exact hc.elim
theorem ok_fn1i {α : Type} {A : Ty α} {pre q : α → Prop} [∀ x, Decidable (q x)] {g g' : α → V} (h : ∀ x om, wfs [A.enc x] → pre x → body cx fn code [A.enc x] om (Same om (if q x then g x else g' x))) : Ok P f (fn1i A pre q g g') where
  mono := fn1i_mono
  run := run_of hf hb hn
  tells := fun X om args vs Q G hr hcl hc => by
    unfold fn1i at hc
    split at hc
    · replace hc := so_inv hc; obtain ⟨x, e, hp, hc, hc'⟩ := hc
      obtain rfl := A.h2 _ _ e
      by_cases hq : q x
      · exact tells_same C hx hf hb hn hg hy G hr hcl (hc (decide_eq_true hq)) (same_if_pos hq (h _ _ hr.wfs hp))
      · exact tells_same C hx hf hb hn hg hy G hr hcl (hc' (decide_eq_false hq)) (same_if_neg hq (h _ _ hr.wfs hp))
    · exact hc.elim

theorem ok_fn2i {α β : Type} {A : Ty α} {B : Ty β} {pre q : α → β → Prop} [∀ x y, Decidable (q x y)] {g g' : α → β → V} (h : ∀ x y om, wfs [A.enc x, B.enc y] → pre x y → body cx fn code [A.enc x, B.enc y] om (Same om (if q x y then g x y else g' x y))) : Ok P f (fn2i A B pre q g g') where
  mono := fn2i_mono
  run := run_of hf hb hn
  tells := fun X om args vs Q G hr hcl hc => by
    unfold fn2i at hc
    split at hc
    · replace hc := so_inv hc; obtain ⟨x, e, hc⟩ := hc
      obtain rfl := A.h2 _ _ e
      replace hc := so_inv hc; obtain ⟨y, e, hp, hc, hc'⟩ := hc
      obtain rfl := B.h2 _ _ e
      by_cases hq : q x y
      · exact tells_same C hx hf hb hn hg hy G hr hcl (hc (decide_eq_true hq)) (same_if_pos hq (h _ _ _ hr.wfs hp))
      · exact tells_same C hx hf hb hn hg hy G hr hcl (hc' (decide_eq_false hq)) (same_if_neg hq (h _ _ _ hr.wfs hp))
    · exact hc.elim

theorem ok_fn3i {α β γ : Type} {A : Ty α} {B : Ty β} {D : Ty γ} {pre q : α → β → γ → Prop} [∀ x y z, Decidable (q x y z)] {g g' : α → β → γ → V} (h : ∀ x y z om, wfs [A.enc x, B.enc y, D.enc z] → pre x y z → body cx fn code [A.enc x, B.enc y, D.enc z] om (Same om (if q x y z then g x y z else g' x y z))) : Ok P f (fn3i A B D pre q g g') where
  mono := fn3i_mono
  run := run_of hf hb hn
  tells := fun X om args vs Q G hr hcl hc => by
    unfold fn3i at hc
    split at hc
    · replace hc := so_inv hc; obtain ⟨x, e, hc⟩ := hc
      obtain rfl := A.h2 _ _ e
      replace hc := so_inv hc; obtain ⟨y, e, hc⟩ := hc
      obtain rfl := B.h2 _ _ e
      replace hc := so_inv hc; obtain ⟨z, e, hp, hc, hc'⟩ := hc
      obtain rfl := D.h2 _ _ e
      by_cases hq : q x y z
      · exact tells_same C hx hf hb hn hg hy G hr hcl (hc (decide_eq_true hq)) (same_if_pos hq (h _ _ _ _ hr.wfs hp))
      · exact tells_same C hx hf hb hn hg hy G hr hcl (hc' (decide_eq_false hq)) (same_if_neg hq (h _ _ _ _ hr.wfs hp))
    · exact hc.elim

theorem ok_fn4i {α β γ δ : Type} {A : Ty α} {B : Ty β} {D : Ty γ} {E : Ty δ} {pre q : α → β → γ → δ → Prop} [∀ x y z w, Decidable (q x y z w)] {g g' : α → β → γ → δ → V} (h : ∀ x y z w om, wfs [A.enc x, B.enc y, D.enc z, E.enc w] → pre x y z w → body cx fn code [A.enc x, B.enc y, D.enc z, E.enc w] om (Same om (if q x y z w then g x y z w else g' x y z w))) : Ok P f (fn4i A B D E pre q g g') where
  mono := fn4i_mono
  run := run_of hf hb hn
  tells := fun X om args vs Q G hr hcl hc => by
    unfold fn4i at hc
    split at hc
    · replace hc := so_inv hc; obtain ⟨x, e, hc⟩ := hc
      obtain rfl := A.h2 _ _ e
      replace hc := so_inv hc; obtain ⟨y, e, hc⟩ := hc
      obtain rfl := B.h2 _ _ e
      replace hc := so_inv hc; obtain ⟨z, e, hc⟩ := hc
      obtain rfl := D.h2 _ _ e
      replace hc := so_inv hc; obtain ⟨w, e, hp, hc, hc'⟩ := hc
      obtain rfl := E.h2 _ _ e
      by_cases hq : q x y z w
      · exact tells_same C hx hf hb hn hg hy G hr hcl (hc (decide_eq_true hq)) (same_if_pos hq (h _ _ _ _ _ hr.wfs hp))
      · exact tells_same C hx hf hb hn hg hy G hr hcl (hc' (decide_eq_false hq)) (same_if_neg hq (h _ _ _ _ _ hr.wfs hp))
    · exact hc.elim

end

theorem Ok.weak {P : Program} {f : FuncId} {c c' : Cn} (hm : Mono c') (h : ∀ args om (K : V → Om → Prop), @c' args om ⟨K⟩ → @c args om ⟨K⟩) (o : Ok P f c) : Ok P f c' :=
  ⟨hm, o.run, fun X om args vs Q G hr hcl hc => o.tells X om args vs Q G hr hcl (h _ _ _ hc)⟩

/-- Three ways. -/
def fn2j {α β : Type} (A : Ty α) (B : Ty β) (pre q r : α → β → Prop) [∀ x y, Decidable (q x y)] [∀ x y, Decidable (r x y)] (f g h : α → β → V) : Cn
  | [a, b], om, K => @so _ (A.dec a) ⟨fun x => @so _ (B.dec b) ⟨fun y => pre x y ∧ @spl (decide (q x y)) ⟨K.k (f x y) om⟩ ⟨@spl (decide (r x y)) ⟨K.k (g x y) om⟩ ⟨K.k (h x y) om⟩⟩⟩⟩
  | _, _, _ => False
attribute [go_sem] fn2j.eq_1
theorem fn2j_mono {α β : Type} {A : Ty α} {B : Ty β} {pre q r : α → β → Prop} [∀ x y, Decidable (q x y)] [∀ x y, Decidable (r x y)] {f g h : α → β → V} : Mono (fn2j A B pre q r f g h) := by
  intro args om K K' hK h
  unfold fn2j at h ⊢
  split at h
  · exact mono_so (fun _ h => mono_so (fun _ h => ⟨h.1, mono_spl (hK _ _) (mono_spl (hK _ _) (hK _ _)) h.2⟩) h) h
  · exact h.elim
theorem fn2j_quiet {α β : Type} {A : Ty α} {B : Ty β} {pre q r : α → β → Prop} [∀ x y, Decidable (q x y)] [∀ x y, Decidable (r x y)] {f g h : α → β → V} : Quiet (fn2j A B pre q r f g h) := by
  intro args om K h
  unfold fn2j at h ⊢
  split at h
  · exact mono_so (fun _ h => mono_so (fun _ h => ⟨h.1, mono_spl (fun g => ⟨.refl _, g⟩) (mono_spl (fun g => ⟨.refl _, g⟩) (fun g => ⟨.refl _, g⟩)) h.2⟩) h) h
  · exact h.elim
theorem ok_fn2j {P : Program} {n : FuncId} {α β : Type} {A : Ty α} {B : Ty β} {pre q r : α → β → Prop} [∀ x y, Decidable (q x y)] [∀ x y, Decidable (r x y)] {f g h : α → β → V}
    (o : Ok P n (fn2 A B pre fun x y => if q x y then f x y else if r x y then g x y else h x y)) : Ok P n (fn2j A B pre q r f g h) := by
  refine Ok.weak fn2j_mono (fun args om K hh => ?_) o
  unfold fn2j at hh
  unfold fn2
  split at hh
  · refine mono_so (fun x hh => mono_so (fun y hh => ⟨hh.1, ?_⟩) hh) hh
    show @C2.k V Om ⟨K⟩ (if q x y then f x y else if r x y then g x y else h x y) _
    rcases Decidable.em (q x y) with e | e
    · rw [if_pos e]; exact hh.2.1 (decide_eq_true e)
    · rw [if_neg e]
      have h2 := hh.2.2 (decide_eq_false e)
      rcases Decidable.em (r x y) with e' | e'
      · rw [if_pos e']; exact h2.1 (decide_eq_true e')
      · rw [if_neg e']; exact h2.2 (decide_eq_false e')
  · exact hh.elim

/-! ### kinds of plain data -/

def tZ : Ty Int where
  enc := .z
  dec := fun | .z x => some x | _ => none
  h1 := fun _ => rfl
  h2 := fun v a e => by cases v <;> simp_all
def tN (k : IntKind) : Ty Nat where
  enc := .n k
  dec := fun | .n j x => if j = k then some x else none | _ => none
  h1 := fun _ => by simp
  h2 := fun v a e => by cases v <;> simp_all
def tB : Ty Bool where
  enc := .b
  dec := fun | .b x => some x | _ => none
  h1 := fun _ => rfl
  h2 := fun v a e => by cases v <;> simp_all
@[go_sem] theorem tZ_enc (x : Int) : tZ.enc x = .z x := rfl
@[go_sem] theorem tZ_dec (x : Int) : tZ.dec (.z x) = some x := rfl
@[go_sem] theorem tN_enc (k : IntKind) (x : Nat) : (tN k).enc x = .n k x := rfl
@[go_sem] theorem tN_dec (k : IntKind) (x : Nat) : (tN k).dec (.n k x) = some x := (tN k).h1 x
@[go_sem] theorem tB_enc (x : Bool) : tB.enc x = .b x := rfl
@[go_sem] theorem tB_dec (x : Bool) : tB.dec (.b x) = some x := rfl
end Go.Proofs.Ytaojebdjkpdcdaa.I
