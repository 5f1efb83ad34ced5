/- Contracts of functions that are asked about an object: what it holds is told by O. -/
import Derived.Test.YteomkgcepiecjaaGreatZM3
namespace Go.Proofs.YteomkgcepiecjaaGreat.I
open Go
set_option linter.unusedSectionVars false
set_option linter.unusedVariables false
abbrev Obj (σ : Type) := Nat → List V → Option σ
def Wrote {σ : Type} (O : Obj σ) (om : Om) (id : Nat) (c : σ) (v : V) : V → Om → Prop := fun r om' => ∃ cs', O id cs' = some c ∧ OmKept (om.put id cs') om' ∧ r = v
theorem Wrote.one {σ : Type} {O : Obj σ} {om : Om} {id : Nat} {c : σ} {v : V} {cs : List V} (h : O id cs = some c) : Wrote O om id c v v (om.put id cs) := ⟨cs, h, .refl _, rfl⟩
def allO {σ : Type} (O : Obj σ) (id : Nat) (c : σ) [K : C (List V)] : Prop := ∀ cs, O id cs = some c → K.k cs
def newO {σ : Type} (O : Obj σ) (om : Om) (c : σ) [K : C2 Nat (List V)] : Prop := ∀ id, om id = none → ∀ cs, O id cs = some c → K.k id cs
section
variable {σ α : Type} (O : Obj σ)
def om0 (pre : σ → Prop) (f : σ → V) : Cn
  | [.obj id 0], om, K => @so _ (om id) ⟨fun cs => @so _ (O id cs) ⟨fun c => pre c ∧ K.k (f c) om⟩⟩
  | _, _, _ => False
def om1 (A : Ty α) (pre : σ → α → Prop) (f : σ → α → V) : Cn
  | [.obj id 0, a], om, K => @so _ (om id) ⟨fun cs => @so _ (O id cs) ⟨fun c => @so _ (A.dec a) ⟨fun x => pre c x ∧ K.k (f c x) om⟩⟩⟩
  | _, _, _ => False
def oc0 (pre q : σ → Prop) [∀ c, Decidable (q c)] (f e : σ → V) (g : σ → σ) : Cn
  | [.obj id 0], om, K => @so _ (om id) ⟨fun cs => @so _ (O id cs) ⟨fun c => pre c ∧ @spl (decide (q c)) ⟨@allO σ O id (g c) ⟨fun cs' => K.k (f c) (om.put id cs')⟩⟩ ⟨K.k (e c) om⟩⟩⟩
  | _, _, _ => False
def oc1 (A : Ty α) (pre q : σ → α → Prop) [∀ c x, Decidable (q c x)] (f e : σ → α → V) (g : σ → α → σ) : Cn
  | [.obj id 0, a], om, K => @so _ (om id) ⟨fun cs => @so _ (O id cs) ⟨fun c => @so _ (A.dec a) ⟨fun x => pre c x ∧ @spl (decide (q c x)) ⟨@allO σ O id (g c x) ⟨fun cs' => K.k (f c x) (om.put id cs')⟩⟩ ⟨K.k (e c x) om⟩⟩⟩⟩
  | _, _, _ => False
end
attribute [go_sem] om0.eq_1 om1.eq_1 oc0.eq_1 oc1.eq_1
section
variable {σ α : Type} {O : Obj σ}
theorem om0_mono {pre : σ → Prop} {f : σ → V} : Mono (om0 O pre f) := by
  intro args om K K' hK h
  unfold om0 at h ⊢
  split at h
  · exact mono_so (fun _ h => mono_so (fun _ h => ⟨h.1, hK _ _ h.2⟩) h) h
  · exact h.elim
theorem om0_quiet {pre : σ → Prop} {f : σ → V} : Quiet (om0 O pre f) := by
  intro args om K h
  unfold om0 at h ⊢
  split at h
  · exact mono_so (fun _ h => mono_so (fun _ h => ⟨h.1, .refl _, h.2⟩) h) h
  · exact h.elim
theorem oc0_mono {pre q : σ → Prop} [∀ c, Decidable (q c)] {f e : σ → V} {g : σ → σ} : Mono (oc0 O pre q f e g) := by
  intro args om K K' hK h
  unfold oc0 at h ⊢
  split at h
  · exact mono_so (fun _ h => mono_so (fun _ h => ⟨h.1, mono_spl (fun h cs' e => hK _ _ (h cs' e)) (hK _ _) h.2⟩) h) h
  · exact h.elim
theorem oc1_mono {A : Ty α} {pre q : σ → α → Prop} [∀ c x, Decidable (q c x)] {f e : σ → α → V} {g : σ → α → σ} : Mono (oc1 O A pre q f e g) := by
  intro args om K K' hK h
  unfold oc1 at h ⊢
  split at h
  · exact mono_so (fun _ h => mono_so (fun _ h => mono_so (fun _ h => ⟨h.1, mono_spl (fun h cs' e => hK _ _ (h cs' e)) (hK _ _) h.2⟩) h) h) h
  · exact h.elim
variable {P : Program} {cx : Cx} (C : COk P cx) (hx : P.follows .mixedOrders = true) {f : FuncId} {fn : Func} {code : Code} (hf : P.funcs[f]? = some fn) (hb : fn.body = some code) (hn : (fn.name == "runtime.NumGoroutine") = false) (hg : okCode cx code = true) (hy : cx.y = none)
include C hx hf hb hn hg hy
theorem ok_om0 {pre : σ → Prop} {g : σ → V} (h : ∀ c id om cs, om id = some cs → O id cs = some c → pre c → body cx fn code [.obj id 0] om (Same om (g c))) : Ok P f (om0 O pre g) where
  mono := om0_mono
  run := run_of hf hb hn
  tells := fun X om args vs Q G hr hcl hc => by
    unfold om0 at hc
    split at hc
    · replace hc := so_inv hc; obtain ⟨cs, e1, hc⟩ := hc
      replace hc := so_inv hc; obtain ⟨c, e2, hp, hc⟩ := hc
      exact tells_same C hx hf hb hn hg hy G hr hcl hc (h _ _ _ _ e1 e2 hp)
    · exact hc.elim
theorem tells_wrote {X : Lay} {om : Om} {args : List V} {vs : List Value} {id : Nat} {c : σ} {v : V} {Q : V → Om → Prop} (G : Good X om) (hr : RepL X vs args) (hcl : cleans args = true) (hQ : ∀ cs', O id cs' = some c → Q v (om.put id cs')) (h : body cx fn code args om (Wrote O om id c v)) : Tells P f X om vs.toArray Q :=
  (body_tells C hx hf hb hg (fun l c e => by rw [hy] at e; cases e) G hr hcl h).less fun r om' ⟨cs', h1, h2, h3⟩ => ⟨om.put id cs', h2, by rw [h3]; exact hQ cs' h1⟩
theorem ok_oc0 {pre q : σ → Prop} [∀ c, Decidable (q c)] {g e : σ → V} {s : σ → σ} (h : ∀ c id om cs, om id = some cs → O id cs = some c → pre c → q c → body cx fn code [.obj id 0] om (Wrote O om id (s c) (g c)))
    (h' : ∀ c id om cs, om id = some cs → O id cs = some c → pre c → ¬ q c → body cx fn code [.obj id 0] om (Same om (e c))) : Ok P f (oc0 O pre q g e s) where
  mono := oc0_mono
  run := run_of hf hb hn
  tells := fun X om args vs Q G hr hcl hc => by
    unfold oc0 at hc
    split at hc
    · replace hc := so_inv hc; obtain ⟨cs, e1, hc⟩ := hc
      replace hc := so_inv hc; obtain ⟨c, e2, hp, hc, hc'⟩ := hc
      by_cases hq : q c
      · exact tells_wrote C hx hf hb hn hg hy G hr hcl (hc (decide_eq_true hq)) (h _ _ _ _ e1 e2 hp hq)
      · exact tells_same C hx hf hb hn hg hy G hr hcl (hc' (decide_eq_false hq)) (h' _ _ _ _ e1 e2 hp hq)
    · exact hc.elim
theorem ok_oc1 {A : Ty α} {pre q : σ → α → Prop} [∀ c x, Decidable (q c x)] {g e : σ → α → V} {s : σ → α → σ} (h : ∀ c x id om cs, om id = some cs → O id cs = some c → wfs [A.enc x] → pre c x → q c x → body cx fn code [.obj id 0, A.enc x] om (Wrote O om id (s c x) (g c x)))
    (h' : ∀ c x id om cs, om id = some cs → O id cs = some c → wfs [A.enc x] → pre c x → ¬ q c x → body cx fn code [.obj id 0, A.enc x] om (Same om (e c x))) : Ok P f (oc1 O A pre q g e s) where
  mono := oc1_mono
  run := run_of hf hb hn
  tells := fun X om args vs Q G hr hcl hc => by
    unfold oc1 at hc
    split at hc
    · replace hc := so_inv hc; obtain ⟨cs, e1, hc⟩ := hc
      replace hc := so_inv hc; obtain ⟨c, e2, hc⟩ := hc
      replace hc := so_inv hc; obtain ⟨x, e3, hp, hc, hc'⟩ := hc
      obtain rfl := A.h2 _ _ e3
      by_cases hq : q c x
      · exact tells_wrote C hx hf hb hn hg hy G hr hcl (hc (decide_eq_true hq)) (h _ _ _ _ _ e1 e2 hr.wfs.2 hp hq)
      · exact tells_same C hx hf hb hn hg hy G hr hcl (hc' (decide_eq_false hq)) (h' _ _ _ _ _ e1 e2 hr.wfs.2 hp hq)
    · exact hc.elim
end
def nw3 {σ α β γ : Type} (O : Obj σ) (A : Ty α) (B : Ty β) (D : Ty γ) (e : α → β → γ → Int) (g : α → β → γ → σ) : Cn
  | [a, b, c], om, K => @so _ (A.dec a) ⟨fun x => @so _ (B.dec b) ⟨fun y => @so _ (D.dec c) ⟨fun z => @spl (decide (e x y z = 0)) ⟨@newO σ O om (g x y z) ⟨fun id cs => K.k (.tup [.obj id 0, .z 0]) (om.put id cs)⟩⟩ ⟨K.k (.tup [.nilp, .z (e x y z)]) om⟩⟩⟩⟩
  | _, _, _ => False
def cp0 {σ : Type} (O : Obj σ) : Cn
  | [.obj id 0], om, K => @so _ (om id) ⟨fun cs => @so _ (O id cs) ⟨fun c => @newO σ O om c ⟨fun j ds => K.k (.obj j 0) (om.put j ds)⟩⟩⟩
  | _, _, _ => False
attribute [go_sem] nw3.eq_1 cp0.eq_1
def Made {σ : Type} (O : Obj σ) (om : Om) (c : σ) (f : Nat → V) : V → Om → Prop := fun r om' => ∃ id, om id = none ∧ ∃ cs, O id cs = some c ∧ OmKept (om.put id cs) om' ∧ r = f id
theorem Made.one {σ : Type} {O : Obj σ} {om : Om} {id : Nat} {c : σ} {f : Nat → V} {cs : List V} (h : om id = none) (h' : O id cs = some c) : Made O om c f (f id) (om.put id cs) := ⟨id, h, cs, h', .refl _, rfl⟩
section
variable {σ α β γ : Type} {O : Obj σ} {A : Ty α} {B : Ty β} {D : Ty γ}
theorem nw3_mono {e : α → β → γ → Int} {g : α → β → γ → σ} : Mono (nw3 O A B D e g) := by
  intro args om K K' hK h
  unfold nw3 at h ⊢
  split at h
  · exact mono_so (fun _ h => mono_so (fun _ h => mono_so (fun _ h => mono_spl (fun h id g cs e => hK _ _ (h id g cs e)) (hK _ _) h) h) h) h
  · exact h.elim
theorem cp0_mono : Mono (cp0 O) := by
  intro args om K K' hK h
  unfold cp0 at h ⊢
  split at h
  · exact mono_so (fun _ h => mono_so (fun _ h id g cs e => hK _ _ (h id g cs e)) h) h
  · exact h.elim
theorem nw3_quiet {e : α → β → γ → Int} {g : α → β → γ → σ} : Quiet (nw3 O A B D e g) := by
  intro args om K h
  unfold nw3 at h ⊢
  split at h
  · exact mono_so (fun _ h => mono_so (fun _ h => mono_so (fun _ h => mono_spl (fun h id g cs e => ⟨.put g (.refl _), h id g cs e⟩) (fun h => ⟨.refl _, h⟩) h) h) h) h
  · exact h.elim
theorem cp0_quiet : Quiet (cp0 O) := by
  intro args om K h
  unfold cp0 at h ⊢
  split at h
  · exact mono_so (fun _ h => mono_so (fun _ h id g cs e => ⟨.put g (.refl _), h id g cs e⟩) h) h
  · exact h.elim
variable {P : Program} {cx : Cx} (C : COk P cx) (hx : P.follows .mixedOrders = true) {f : FuncId} {fn : Func} {code : Code} (hf : P.funcs[f]? = some fn) (hb : fn.body = some code) (hn : (fn.name == "runtime.NumGoroutine") = false) (hg : okCode cx code = true) (hy : cx.y = none)
include C hx hf hb hn hg hy
theorem tells_made {X : Lay} {om : Om} {args : List V} {vs : List Value} {c : σ} {v : Nat → V} {Q : V → Om → Prop} (G : Good X om) (hr : RepL X vs args) (hcl : cleans args = true) (hQ : ∀ id, om id = none → ∀ cs, O id cs = some c → Q (v id) (om.put id cs)) (h : body cx fn code args om (Made O om c v)) : Tells P f X om vs.toArray Q :=
  (body_tells C hx hf hb hg (fun l c e => by rw [hy] at e; cases e) G hr hcl h).less fun r om' ⟨id, h1, cs, h2, h3, h4⟩ => ⟨om.put id cs, h3, by rw [h4]; exact hQ id h1 cs h2⟩
theorem ok_nw3 {e : α → β → γ → Int} {g : α → β → γ → σ} (h : ∀ x y z om, wfs [A.enc x, B.enc y, D.enc z] → e x y z = 0 → body cx fn code [A.enc x, B.enc y, D.enc z] om (Made O om (g x y z) fun id => .tup [.obj id 0, .z 0]))
    (h' : ∀ x y z om, wfs [A.enc x, B.enc y, D.enc z] → ¬ e x y z = 0 → body cx fn code [A.enc x, B.enc y, D.enc z] om (Same om (.tup [.nilp, .z (e x y z)]))) : Ok P f (nw3 O A B D e g) where
  mono := nw3_mono
  run := run_of hf hb hn
  tells := fun X om args vs Q G hr hcl hc => by
    unfold nw3 at hc
    split at hc
    · replace hc := so_inv hc; obtain ⟨x, e1, hc⟩ := hc
      replace hc := so_inv hc; obtain ⟨y, e2, hc⟩ := hc
      replace hc := so_inv hc; obtain ⟨z, e3, hc, hc'⟩ := hc
      obtain rfl := A.h2 _ _ e1
      obtain rfl := B.h2 _ _ e2
      obtain rfl := D.h2 _ _ e3
      by_cases hq : e x y z = 0
      · exact tells_made C hx hf hb hn hg hy G hr hcl (hc (decide_eq_true hq)) (h _ _ _ _ hr.wfs hq)
      · exact tells_same C hx hf hb hn hg hy G hr hcl (hc' (decide_eq_false hq)) (h' _ _ _ _ hr.wfs hq)
    · exact hc.elim
theorem ok_cp0 (h : ∀ c id om cs, om id = some cs → O id cs = some c → body cx fn code [.obj id 0] om (Made O om c fun j => .obj j 0)) : Ok P f (cp0 O) where
  mono := cp0_mono
  run := run_of hf hb hn
  tells := fun X om args vs Q G hr hcl hc => by
    unfold cp0 at hc
    split at hc
    · replace hc := so_inv hc; obtain ⟨cs, e1, hc⟩ := hc
      replace hc := so_inv hc; obtain ⟨c, e2, hc⟩ := hc
      exact tells_made C hx hf hb hn hg hy G hr hcl hc (h _ _ _ _ e1 e2)
    · exact hc.elim
end
end Go.Proofs.YteomkgcepiecjaaGreat.I
