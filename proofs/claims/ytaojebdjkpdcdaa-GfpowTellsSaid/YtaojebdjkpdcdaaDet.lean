/- Operations that tell one value: they may be done sooner or later. -/
import Derived.Test.YtaojebdjkpdcdaaEx2
namespace Go.Proofs.Ytaojebdjkpdcdaa.I
open Go
set_option linter.unusedVariables false
set_option linter.unusedSimpArgs false

/-- One way out, and the same one there. -/
def Det {α : Type} (F F' : (α → Prop) → Prop) : Prop := ∀ K, F K → ∃ v, K v ∧ ∀ K', K' v → F' K'

theorem Det.ret {α : Type} (v : α) : Det (fun K : α → Prop => K v) (fun K => K v) := fun K h => ⟨v, h, fun _ h => h⟩
theorem Det.no {α : Type} (F : (α → Prop) → Prop) : Det (fun _ => False) F := fun _ h => h.elim
theorem Det.and {α : Type} {p q : Prop} {F F' : (α → Prop) → Prop} (hp : p → q) (h : Det F F') : Det (fun K => p ∧ F K) (fun K => q ∧ F' K) := fun K hh =>
  let ⟨v, h1, h2⟩ := h K hh.2
  ⟨v, h1, fun K' hv => ⟨hp hh.1, h2 K' hv⟩⟩
theorem Det.so {α β : Type} {x : Option β} {G G' : β → (α → Prop) → Prop} (h : ∀ a, Det (G a) (G' a)) : Det (fun K => @so _ x ⟨fun a => G a K⟩) (fun K => @I.so _ x ⟨fun a => G' a K⟩) := by
  intro K hh
  obtain ⟨a, rfl, hh⟩ := so_inv hh
  exact h a K hh
theorem Det.ti {α : Type} {cx : Cx} {t : TypeId} {G G' : TI → (α → Prop) → Prop} (h : ∀ a, Det (G a) (G' a)) : Det (fun K => @ti cx t ⟨fun a => G a K⟩) (fun K => @I.ti cx t ⟨fun a => G' a K⟩) := Det.so h
/-- What comes behind is told by one value too. -/
theorem Det.bind {α β : Type} {F F' : (α → Prop) → Prop} {G G' : α → (β → Prop) → Prop} (h : Det F F') (g : ∀ a, Det (G a) (G' a)) : Det (fun K => F (fun a => G a K)) (fun K => F' (fun a => G' a K)) := by
  intro K hh
  obtain ⟨a, ha, hF⟩ := h _ hh
  obtain ⟨b, hb, hG⟩ := g a K ha
  exact ⟨b, hb, fun K' hK => hF _ (hG K' hK)⟩

/-- What a home holds is as it was. -/
def MemKept (m m' : Mem) : Prop := ∀ h H, m.get h = some H → ∃ z, m'.get h = some ⟨H.es, H.ag, H.els, z⟩

theorem MemKept.refl (m : Mem) : MemKept m m := fun _ H e => ⟨H.fz, e⟩
theorem MemKept.trans {m m' m'' : Mem} (h : MemKept m m') (g : MemKept m' m'') : MemKept m m'' := fun k H e => by
  obtain ⟨z, e1⟩ := h k H e
  obtain ⟨y, e2⟩ := g k _ e1
  exact ⟨y, e2⟩

/-- A home is looked at, its being fast apart. -/
theorem Det.home {α : Type} {m m' : Mem} (hm : MemKept m m') {h : Nat} {G G' : Hm → (α → Prop) → Prop} (g : ∀ H z, Det (G H) (G' ⟨H.es, H.ag, H.els, z⟩)) :
    Det (fun K => @I.so _ (m.get h) ⟨fun H => G H K⟩) (fun K => @I.so _ (m'.get h) ⟨fun H => G' H K⟩) := by
  intro K hh
  obtain ⟨H, e, hh⟩ := so_inv hh
  obtain ⟨z, e'⟩ := hm h H e
  obtain ⟨v, h1, h2⟩ := g H z K hh
  exact ⟨v, h1, fun K' hv => by rw [e']; exact h2 K' hv⟩

theorem det_part (i : TI) (cs : List V) (off : Nat) : Det (fun K => @part i cs off ⟨K⟩) (fun K => @part i cs off ⟨K⟩) := by
  unfold part
  refine .and id ?_
  cases i.isAgg <;> exact .ret _

theorem det_addr (x : V) (d : Nat) : Det (fun K => @addr x d ⟨K⟩) (fun K => @addr x d ⟨K⟩) := by
  unfold addr
  cases x <;> first | exact .ret _ | exact .no _

theorem det_fieldOf (cx : Cx) (t : TypeId) (f : Nat) {α : Type} {G G' : Nat → TypeId → (α → Prop) → Prop} (h : ∀ a b, Det (G a b) (G' a b)) :
    Det (fun K => @fieldOf cx t f ⟨fun a b => G a b K⟩) (fun K => @fieldOf cx t f ⟨fun a b => G' a b K⟩) := by
  unfold fieldOf
  refine .ti fun i => ?_
  cases i.k <;> first | exact .so fun p => h _ _ | exact .no _

theorem det_indexAddr (cx : Cx) {m m' : Mem} (hm : MemKept m m') (t : TypeId) (x ix : V) : Det (fun K => @indexAddr cx m t x ix ⟨K⟩) (fun K => @indexAddr cx m' t x ix ⟨K⟩) := by
  unfold indexAddr
  refine .ti fun i => ?_
  cases i.k <;> cases ix <;> first | exact .no _ | skip
  · refine .ti fun ei => ?_
    cases x <;> first | exact .no _ | skip
    · exact .and id (.ret _)
    · exact .and id (.ret _)
    · exact .home hm fun H z => .and id (.ret _)
    · exact .and id (.and id (det_addr _ _))
    · exact .and id (.ret _)
  · exact .ti fun ei => .and id (det_addr _ _)

theorem det_load (cx : Cx) {st st' : St} (hm : MemKept st.mem st'.mem) (t : TypeId) (x : V) (ho : (∀ i o, x ≠ .obj i o) ∨ OmKept st.om st'.om) : Det (fun K => @load cx st t x ⟨K⟩) (fun K => @load cx st' t x ⟨K⟩) := by
  unfold load
  refine .ti fun i => ?_
  cases x <;> first | exact .no _ | skip
  · refine .home hm fun H z => .and id ?_
    unfold elemGet
    cases H.ag
    · exact .and id (.ret _)
    · exact det_part _ _ _
  · exact det_part _ _ _
  · rcases ho with ho | ho
    · exact absurd rfl (ho _ _)
    · intro K h
      obtain ⟨cs, hcs, h⟩ := so_inv h
      obtain ⟨v, h1, h2⟩ := det_part _ _ _ K h
      refine ⟨v, h1, fun K' hK => ?_⟩
      show @so _ _ ⟨_⟩
      rw [ho _ _ hcs]; exact h2 K' hK

theorem det_bnd (x : Option V) (d : Int) : Det (fun K => @bnd x d ⟨K⟩) (fun K => @bnd x d ⟨K⟩) := by
  unfold bnd
  cases x with
  | none => exact .ret _
  | some y => cases y <;> first | exact .ret _ | exact .no _

theorem det_slice (cx : Cx) (t : TypeId) (x : V) (lo hi mx : Option V) : Det (fun K => @slice cx t x lo hi mx ⟨K⟩) (fun K => @slice cx t x lo hi mx ⟨K⟩) := by
  unfold slice
  refine .ti fun i => ?_
  cases i.k <;> first | exact .no _ | skip
  · refine .and id (.ti fun ei => ?_)
    unfold sliceS
    cases x <;> first | exact .no _ | skip
    · exact .bind (det_bnd _ _) fun a => .bind (det_bnd _ _) fun b => .and id (.ret _)
    · exact .bind (det_bnd _ _) fun a => .bind (det_bnd _ _) fun b => .and id (.ret _)
    · exact .bind (det_bnd _ _) fun a => .bind (det_bnd _ _) fun b => .and id (.ret _)
    · exact .bind (det_bnd _ _) fun a => .bind (det_bnd _ _) fun b => .and id (.bind (det_addr _ _) fun q => .ret _)
    · exact .bind (det_bnd _ _) fun a => .bind (det_bnd _ _) fun b => .and id (.ret _)
  · exact .ti fun ei => .bind (det_bnd _ _) fun a => .bind (det_bnd _ _) fun b => .bind (det_bnd _ _) fun c => .and id (.bind (det_addr _ _) fun q => .ret _)

theorem det_placeS (cx : Cx) (fs : List (Nat × TypeId)) (zs : List V) : ∀ l, Det (fun K => @placeS cx fs zs l ⟨K⟩) (fun K => @placeS cx fs zs l ⟨K⟩)
  | [] => .ret _
  | (j, v) :: l => by
    simp only [placeS]
    exact .so fun p => .ti fun fi => .and id (.bind (det_placeS cx fs zs l) fun r => .ret _)

theorem det_placeA (ei : TI) (zs : List V) : ∀ l, Det (fun K => @placeA ei zs l ⟨K⟩) (fun K => @placeA ei zs l ⟨K⟩)
  | [] => .ret _
  | (j, v) :: l => by
    simp only [placeA]
    exact .and id (.bind (det_placeA ei zs l) fun r => .ret _)

theorem det_build (cx : Cx) (t : TypeId) (ps : List (Nat × V)) : Det (fun K => @build cx t ps ⟨K⟩) (fun K => @build cx t ps ⟨K⟩) := by
  unfold build
  refine .ti fun i => ?_
  cases i.k <;> first | exact .no _ | skip
  · exact .bind (det_placeS _ _ _ _) fun r => .ret _
  · exact .ti fun ei => .bind (det_placeA _ _ _) fun r => .ret _

theorem det_nilCheck (x : V) : Det (fun K => @nilCheck x ⟨K⟩) (fun K => @nilCheck x ⟨K⟩) := by
  unfold nilCheck
  cases x <;> first | exact .ret _ | exact .no _

/-- Not a comparison of a slice with nil. -/
theorem det_bin (op : BinOp) (t : TK) (x y : V) (h : t.isSl = false) : Det (fun K => @bin op t x y ⟨K⟩) (fun K => @bin op t x y ⟨K⟩) := by
  unfold bin
  cases op <;> cases x <;> cases y <;> first | exact .no _ | exact .ret _ | exact .and id (.ret _) | exact .and id (.and id (.ret _)) | exact fun K hh => absurd hh.1 (by simp [h])

theorem det_un (op : UnOp) (x : V) : Det (fun K => @un op x ⟨K⟩) (fun K => @un op x ⟨K⟩) := by
  unfold un
  cases op <;> cases x <;> first | exact .no _ | exact .ret _ | exact .and id (.ret _)

theorem det_conv (d : TK) (x : V) : Det (fun K => @conv d x ⟨K⟩) (fun K => @conv d x ⟨K⟩) := by
  unfold conv
  cases d <;> first | (cases x <;> exact .no _) | skip
  rename_i k
  cases x <;> cases k <;> first | exact .no _ | exact .ret _ | exact .and id (.ret _)

theorem det_lenV (t : TK) (x : V) : Det (fun K => @lenV t x ⟨K⟩) (fun K => @lenV t x ⟨K⟩) := by
  unfold lenV
  cases x <;> first | exact .no _ | exact .and id (.ret _)
end Go.Proofs.Ytaojebdjkpdcdaa.I
