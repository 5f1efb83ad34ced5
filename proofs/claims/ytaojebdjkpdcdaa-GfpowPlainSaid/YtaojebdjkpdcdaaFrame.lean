/- An operation goes its way whatever lies in slots that it doesn't look at. -/
import Derived.Test.YtaojebdjkpdcdaaDetOp
namespace Go.Proofs.Ytaojebdjkpdcdaa.I
open Go

def muts : Op → Bool
  | .store .. => true
  | .call c => match c.callee with | .builtin .append => true | _ => false
  | _ => false

def effs (cx : Cx) : Op → Bool
  | .store .. => true
  | .call c => match c.callee with | .value (.func f) => !cx.qs.contains f | .value _ => true | .builtin .append => true | _ => false
  | _ => false

theorem so_of {α : Type} {x : Option α} {a : α} {K : α → Prop} (h : x = some a) (hK : K a) : @so α x ⟨K⟩ := by rw [h]; exact hK
theorem ti_of {cx : Cx} {t : TypeId} {i : TI} {K : TI → Prop} (h : cx.T t = some i) (hK : K i) : @ti cx t ⟨K⟩ := so_of h hK

def out (st : St) (dst : Option Tmp) (v : V) (m : Mem) (om : Om) : St := (⟨st.env, m, om⟩ : St).set dst v

theorem memKept_cons {m : Mem} {d : Nat} (h : m.get d = none) (H : Hm) : MemKept m ((d, H) :: m) := fun g G e => by
  refine ⟨G.fz, ?_⟩
  rw [mem_get_cons]
  by_cases e' : g = d
  · subst e'; rw [h] at e; cases e
  · simp [e', e]

theorem memKept_fz {m : Mem} {h : Nat} {H : Hm} (e : m.get h = some H) (z : Bool) : MemKept m (m.put h ⟨H.es, H.ag, H.els, z⟩) := fun g G eg => by
  rw [mem_get_put]
  by_cases e' : g = h
  · subst e'; rw [e] at eg; injection eg with eg; subst eg
    exact ⟨z, by simp⟩
  · exact ⟨G.fz, by simp [e', eg]⟩

theorem home_frame {st st' : St} {dst : Option Tmp} {es : Nat} {ag : Bool} {els : List V} {fz : Bool} {v : Nat → V} {K K' : St → Prop} (hm : st'.mem = st.mem) (hom : st'.om = st.om)
    (hK : ∀ v m, MemKept st.mem m → K (out st dst v m st.om) → K' (out st' dst v m st.om)) (h : @home st dst es ag els fz v ⟨K⟩) : @home st' dst es ag els fz v ⟨K'⟩ := by
  obtain ⟨d, rfl, hd, h⟩ := home_inv h
  refine ⟨by rw [hm]; exact hd, ?_⟩
  rw [hm, hom]
  exact hK (v d) _ (memKept_cons hd _) h

theorem give1_frame {st st' : St} {x : V} {K K' : St → V → Prop} (hm : st'.mem = st.mem) (hom : st'.om = st.om)
    (hK : ∀ m y, MemKept st.mem m → K ⟨st.env, m, st.om⟩ y → K' ⟨st'.env, m, st.om⟩ y) (h : @give1 st x ⟨K⟩) : @give1 st' x ⟨K'⟩ := by
  have base : ∀ y, K st y → K' st' y := fun y hy => by
    have := hK st.mem y (.refl _) hy
    rw [← hm, ← hom] at this
    exact this
  unfold give1 at h ⊢
  split at h
  · obtain ⟨H, hH, h1, h⟩ := so_inv h
    rw [hm, hom]
    refine so_of hH ⟨h1, ?_⟩
    exact hK _ _ (memKept_fz hH true) h
  · exact base _ h
  · exact base _ h
  · exact ⟨h.1, base _ h.2⟩

theorem gives1_frame : ∀ {xs : List V} {st st' : St} {K K' : St → List V → Prop}, st'.mem = st.mem → st'.om = st.om →
    (∀ m ys, MemKept st.mem m → K ⟨st.env, m, st.om⟩ ys → K' ⟨st'.env, m, st.om⟩ ys) → @gives1 st xs ⟨K⟩ → @gives1 st' xs ⟨K'⟩
  | [], st, st', K, K', hm, hom, hK, h => by
    have := hK st.mem [] (.refl _) h
    rw [← hm, ← hom] at this
    exact this
  | x :: xs, st, st', K, K', hm, hom, hK, h => by
    simp only [gives1] at h ⊢
    refine give1_frame hm hom (fun m y hk h => ?_) h
    refine gives1_frame (st := ⟨st.env, m, st.om⟩) (st' := ⟨st'.env, m, st.om⟩) rfl rfl (fun m' ys hk' h => ?_) h
    exact hK m' (y :: ys) (hk.trans hk') h

theorem give_frame {st st' : St} {x : V} {K K' : St → V → Prop} (hm : st'.mem = st.mem) (hom : st'.om = st.om)
    (hK : ∀ m y, MemKept st.mem m → K ⟨st.env, m, st.om⟩ y → K' ⟨st'.env, m, st.om⟩ y) (h : @give st x ⟨K⟩) : @give st' x ⟨K'⟩ := by
  unfold give at h ⊢
  split at h
  · exact gives1_frame hm hom (fun m ys hk h => hK m _ hk h) h
  · exact give1_frame hm hom hK h

theorem thing_frame {st st' : St} {dst : Option Tmp} {x : V} {K K' : St → Prop} (hm : st'.mem = st.mem) (hom : st'.om = st.om)
    (hK : ∀ v m om, MemKept st.mem m → OmKept st.om om → K (out st dst v m om) → K' (out st' dst v m om)) (h : @thing st dst x ⟨K⟩) : @thing st' dst x ⟨K'⟩ := by
  unfold thing at h ⊢
  refine give_frame hm hom (fun m y hk h => ?_) h
  obtain ⟨d, rfl, h⟩ := so_inv h
  refine fun id hid => hK (.obj id 0) m (st.om.put id y.cells) hk (fun i cs hi => ?_) (h id hid)
  simp only [Om.put]
  split
  · rename_i e; subst e; rw [hid] at hi; cases hi
  · exact hi

theorem gives_frame : ∀ {xs : List V} {st st' : St} {K K' : St → List V → Prop}, st'.mem = st.mem → st'.om = st.om →
    (∀ m ys, MemKept st.mem m → K ⟨st.env, m, st.om⟩ ys → K' ⟨st'.env, m, st.om⟩ ys) → @gives st xs ⟨K⟩ → @gives st' xs ⟨K'⟩
  | [], st, st', K, K', hm, hom, hK, h => by
    have := hK st.mem [] (.refl _) h
    rw [← hm, ← hom] at this
    exact this
  | x :: xs, st, st', K, K', hm, hom, hK, h => by
    simp only [gives] at h ⊢
    refine give_frame hm hom (fun m y hk h => ?_) h
    refine gives_frame (st := ⟨st.env, m, st.om⟩) (st' := ⟨st'.env, m, st.om⟩) rfl rfl (fun m' ys hk' h => ?_) h
    exact hK m' (y :: ys) (hk.trans hk') h

theorem rd_mono {m : Mem} {om : Om} {x : V} {K K' : List V → Prop} (hK : ∀ xs, K xs → K' xs) (h : @rd m om x ⟨K⟩) : @rd m om x ⟨K'⟩ := by
  unfold rd at h ⊢
  cases x <;> first | exact h.elim | exact hK _ h | skip
  all_goals
    obtain ⟨H, hH, h1, h⟩ := so_inv h
    exact so_of hH ⟨h1, hK _ h⟩

theorem fresh_frame {st st' : St} {dst : Option Tmp} {ei : TI} {xs : List V} {K K' : St → Prop} (hm : st'.mem = st.mem) (hom : st'.om = st.om)
    (hK : ∀ v m om, OmKept st.om om → K (out st dst v m om) → K' (out st' dst v m om)) (h : @fresh st dst ei xs ⟨K⟩) : @fresh st' dst ei xs ⟨K'⟩ := by
  obtain ⟨h1, h⟩ := h
  refine ⟨h1, ?_⟩
  obtain ⟨d, rfl, h⟩ := so_inv h
  refine fun id hid cap hc hl => ?_
  rw [hom] at hid ⊢
  rw [hm]
  exact hK _ st.mem _ (.put hid (.refl _)) (h id hid cap hc hl)

theorem bin_mono {op : BinOp} {t : TK} {x y : V} {K K' : V → Prop} (hK : ∀ v, K v → K' v) (h : @bin op t x y ⟨K⟩) : @bin op t x y ⟨K'⟩ := by
  unfold bin at h ⊢
  split at h <;> first | exact h.elim | exact hK _ h | exact ⟨h.1, hK _ h.2⟩ | exact ⟨h.1, h.2.1, hK _ h.2.2⟩ | exact ⟨h.1, fun e => hK _ (h.2.1 e), hK _ h.2.2⟩

theorem call_frame {cx : Cx} (hmono : ∀ f c, lk cx.cs f = some c → Mono c) {q : Prop} {st st' : St} {dst : Option Tmp} {f : FuncId} {args : List V} {K K' : St → Prop} (hm : st'.mem = st.mem) (hom : st'.om = st.om)
    (hq : q → ∀ c, lk cx.cs f = some c → Quiet c) (hK : ∀ v m om, MemKept st.mem m → (q → OmKept st.om om) → K (out st dst v m om) → K' (out st' dst v m om)) (h : @call cx st dst f args ⟨K⟩) : @call cx st' dst f args ⟨K'⟩ := by
  unfold call at h ⊢
  refine gives_frame hm hom (fun m ys hk h => ?_) h
  obtain ⟨c, hc, h⟩ := so_inv h
  refine so_of hc ?_
  by_cases hqq : q
  · exact hmono f c hc ys st.om _ _ (fun r om h hw => hK r m om hk (fun _ => h.1) (h.2 hw)) (hq hqq c hc ys st.om _ h)
  · exact hmono f c hc ys st.om _ _ (fun r om h hw => hK r m om hk (fun e => absurd e hqq) (h hw)) h

theorem append_frame {cx : Cx} {st st' : St} {dst : Option Tmp} {t : TypeId} {x y : V} {K K' : St → Prop} (hm : st'.mem = st.mem) (hom : st'.om = st.om)
    (hK : ∀ v m om, K (out st dst v m om) → K' (out st' dst v m om)) (h : @append cx st dst t x y ⟨K⟩) : @append cx st' dst t x y ⟨K'⟩ := by
  unfold append at h ⊢
  obtain ⟨i, hi, h⟩ := ti_inv h
  refine ti_of hi ?_
  split at h <;> first | exact h.elim | skip
  rename_i e hk
  obtain ⟨ei, hei, h⟩ := ti_inv h
  refine ti_of hei ?_
  rw [hm, hom]
  refine rd_mono (fun ys h => ⟨h.1, ?_⟩) h
  obtain ⟨_, h⟩ := h
  have same : ∀ v, K (st.set dst v) → K' (st'.set dst v) := fun v h => by
    have := hK v st.mem st.om h
    unfold out at this
    rw [← hm, ← hom] at this
    exact this
  cases x <;> first | exact h.elim | skip
  · cases hob : isOb cx dst <;> simp only [hob] at h ⊢
    · exact ⟨h.1, home_frame hm hom (fun v m _ h => hK v m _ h) h.2⟩
    · exact ⟨h.1, fun e => same _ (h.2.1 e), fun e => fresh_frame hm hom (fun v m om _ h => hK v m om h) (h.2.2 e)⟩
  · cases hob : isOb cx dst <;> simp only [hob] at h ⊢
    · exact ⟨h.1, home_frame hm hom (fun v m _ h => hK v m _ h) h.2⟩
    · exact ⟨fun e => same _ (h.1 e), fun e => fresh_frame hm hom (fun v m om _ h => hK v m om h) (h.2 e)⟩
  · obtain ⟨H, hH, h1, h⟩ := so_inv h
    exact so_of hH ⟨h1, hK _ _ _ h⟩
  · obtain ⟨cs, hcs, h1, h2, h3⟩ := so_inv h
    refine so_of hcs ⟨h1, fun e => hK (.ow _ _ _ _) st.mem (st.om.put _ _) (h2 e), fun e => ?_⟩
    obtain ⟨d, rfl, h4⟩ := so_inv (h3 e)
    exact fun id hid cap hc hl => hK (.ow id 0 _ cap) st.mem (st.om.put id _) (h4 id hid cap hc hl)

theorem ex_frame {cx : Cx} (hmono : ∀ f c, lk cx.cs f = some c → Mono c) (hqs : ∀ f c, cx.qs.contains f = true → lk cx.cs f = some c → Quiet c) {fl : Bool} {st st' : St} {dst : Option Tmp} {op : Op} {K K' : St → Prop} (ho : ∀ o ∈ op.operands, st'.opd o = st.opd o) (hm : st'.mem = st.mem) (hom : st'.om = st.om)
    (hK : ∀ v m om, (muts op = false → MemKept st.mem m) → (effs cx op = false → OmKept st.om om) → K (out st dst v m om) → K' (out st' dst v m om)) (h : @exR cx fl st dst op ⟨K⟩) : @exR cx fl st' dst op ⟨K'⟩ := by
  by_cases hP : isP cx op = true
  · obtain ⟨v, h1, h2⟩ := det_ex cx hP (st' := st') ⟨ho, fun _ => by rw [hm]; exact .refl _, fun _ => .inr (by rw [hom]; exact .refl _)⟩ h
    refine h2 _ ?_
    have := hK v st.mem st.om (fun _ => .refl _) (fun _ => .refl _) h1
    unfold out at this
    rw [← hm, ← hom] at this
    exact this
  · have hP' : isP cx op = false := by simpa using hP
    refine ⟨?_, ?_⟩
    · have hs := h.1
      unfold seen at hs ⊢
      split
      · simp only at hs
        rename_i t a
        rw [ho a (by simp [Op.operands])]; exact hs
      · rename_i c
        have e : c.args.toList.map st'.opd = c.args.toList.map st.opd := List.map_congr_left fun x hx => ho x (by simp only [Op.operands, Call.operands]; split <;> simp_all)
        have hs : notOw st c.callee (c.args.toList.map st.opd) := by cases fl <;> exact hs
        rw [e]
        unfold notOw at hs ⊢
        split
        · rename_i f h1
          rw [ho f (by simp [Op.operands, Call.operands, h1])]
          simp only [h1] at hs
          exact hs
        · trivial
      · trivial
    have hseen := h.1
    replace h := h.2
    cases op <;> simp only [isP] at hP' <;> try (exact absurd hP'.symm Bool.false_ne_true)
    case alloc e =>
      simp only [ex, ex1] at h ⊢
      obtain ⟨i, hi, h⟩ := ti_inv h
      refine ti_of hi ?_
      split at h
      · exact thing_frame hm hom (fun v m om hk ho h => hK v m _ (fun _ => hk) (fun _ => ho) h) h
      · exact home_frame hm hom (fun v m hk h => hK v m _ (fun _ => hk) (fun _ => .refl _) h) h
    case box e x =>
      simp only [ex, ex1] at h ⊢
      obtain ⟨i, hi, hf, h⟩ := ti_inv h
      refine ti_of hi ?_
      rw [ho x (by simp [Op.operands])]
      refine ⟨hf, ?_⟩
      split at h
      · exact thing_frame hm hom (fun v m om hk ho h => hK v m _ (fun _ => hk) (fun _ => ho) h) h
      · exact home_frame hm hom (fun v m hk h => hK v m _ (fun _ => hk) (fun _ => .refl _) h) h
    case buildSlice t len ps =>
      have e : ps.toList.map (fun p => st'.opd p.2) = ps.toList.map fun p => st.opd p.2 :=
        List.map_congr_left fun p hp => ho p.2 (by simp only [Op.operands]; exact List.mem_toArray.2 (List.mem_map.2 ⟨p, hp, rfl⟩))
      simp only [ex] at h ⊢
      obtain ⟨i, hi, h⟩ := ti_inv h
      refine ti_of hi ?_
      cases hk : i.k <;> simp only [hk] at h ⊢ <;> first | exact h.elim | skip
      obtain ⟨ei, hei, h⟩ := ti_inv h
      refine ti_of hei ?_
      rw [e]
      exact gives_frame hm hom (fun m ys hk h => ⟨h.1, hK _ m _ (fun _ => hk) (fun _ => .refl _) h.2⟩) h
    case store t a x =>
      have ea := ho a (by simp [Op.operands])
      have ex' := ho x (by simp [Op.operands])
      simp only [ex, ex1, store] at h ⊢
      obtain ⟨i, hi, hf, h⟩ := ti_inv h
      refine ti_of hi ?_
      rw [ea, ex']
      refine ⟨hf, ?_⟩
      cases hv : st.opd a <;> simp only [hv] at h ⊢ <;> first | exact h.elim | skip
      · obtain ⟨H, hH, h1, h⟩ := so_inv h
        rw [hm, hom]
        refine so_of hH ⟨h1, ?_⟩
        exact hK .u _ st.om (fun e => by simp [muts] at e) (fun e => by simp [effs] at e) h
      · obtain ⟨cs, hcs, h1, h⟩ := so_inv h
        rw [hom]
        refine so_of hcs ⟨h1, ?_⟩
        exact give_frame hm hom (fun m y hk h => hK .u m _ (fun _ => hk) (fun e => by simp [effs] at e) h) h
    case binOp op t x y yt =>
      simp only [ex, ex1] at h ⊢
      obtain ⟨i, hi, h⟩ := ti_inv h
      refine ti_of hi ?_
      rw [ho x (by simp [Op.operands]), ho y (by simp [Op.operands])]
      refine bin_mono (fun v h => ?_) h
      have := hK v st.mem st.om (fun _ => .refl _) (fun _ => .refl _) h
      unfold out at this
      rw [← hm, ← hom] at this
      exact this
    case makeSlice t l c =>
      simp only [ex, ex1] at h ⊢
      obtain ⟨i, hi, h⟩ := ti_inv h
      refine ti_of hi ?_
      rw [ho l (by simp [Op.operands]), ho c (by simp [Op.operands])]
      split at h <;> first | exact h.elim | skip
      rename_i e x y hk h1 h2
      obtain ⟨ei, hei, h3, h⟩ := ti_inv h
      refine ti_of hei ?_
      refine ⟨h3, ?_⟩
      split at h
      · obtain ⟨d, rfl, h⟩ := so_inv h
        refine fun id hid => ?_
        rw [hom] at hid ⊢
        rw [hm]
        exact hK _ st.mem _ (fun _ => .refl _) (fun _ => .put hid (.refl _)) (h id hid)
      · exact home_frame hm hom (fun v m hk h => hK v m _ (fun _ => hk) (fun _ => .refl _) h) h
    case call c =>
      have e : c.args.toList.map st'.opd = c.args.toList.map st.opd := List.map_congr_left fun x hx => ho x (by simp only [Op.operands, Call.operands]; split <;> simp_all)
      simp only [ex, exCall] at h ⊢
      cases hc : c.callee with
      | value f =>
        simp only [hc, e] at h ⊢
        rw [ho f (by simp [Op.operands, Call.operands, hc])]
        split at h <;> first | exact h.elim | skip
        rotate_left 1
        · rename_i l hf
          simp [seen, hc, notOw, hf] at hseen
        rename_i g as bs hf
        refine call_frame hmono (q := effs cx (.call c) = false) hm hom (fun e c' hc' => ?_) (fun v m om hk hq h => hK v m om (fun _ => hk) hq h) h
        cases f with
        | func f0 =>
          simp only [effs, hc, Bool.not_eq_false'] at e
          simp only [St.opd, V.fn.injEq, Fn.func.injEq] at hf
          rw [hf.1] at e
          exact hqs _ _ e hc'
        | _ => simp [effs, hc] at e
      | invoke r m => simp only [hc] at h
      | builtin b =>
        cases b <;> simp only [hc, e] at h ⊢ hP' <;> first | exact h.elim | (exact absurd hP'.symm Bool.false_ne_true) | skip
        split at h <;> first | exact h.elim | skip
        rename_i x y t u h1 h2
        obtain ⟨ui, hui, hs, h⟩ := ti_inv h
        refine ti_of hui ?_
        refine ⟨hs, append_frame hm hom (fun v m om h => hK v m om (fun e => by simp [muts, hc] at e) (fun e => by simp [effs, hc] at e) h) h⟩
    all_goals exact h.elim
end Go.Proofs.Ytaojebdjkpdcdaa.I
