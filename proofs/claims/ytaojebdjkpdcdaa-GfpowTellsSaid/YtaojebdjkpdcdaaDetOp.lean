/- The same for whole operations; and that an operation goes its way whatever lies in slots that it doesn't look at. -/
import Derived.Test.YtaojebdjkpdcdaaDet
namespace Go.Proofs.Ytaojebdjkpdcdaa.I
open Go

def isP (cx : Cx) : Op → Bool
  | .move _ | .assign _ | .pick .. | .build .. | .load .. | .nilCheck _ | .unOp .. | .convert .. | .makeInterface .. | .makeFunc .. | .slice .. | .fieldAddr .. | .field .. | .indexAddr .. | .index .. | .extract .. => true
  | .binOp _ t _ _ _ => match cx.T t with | some i => !i.k.isSl | none => false
  | .call c => match c.callee with | .builtin .len | .builtin .max | .builtin .min => true | _ => false
  | _ => false

def readsM : Op → Bool
  | .load .. | .indexAddr .. => true
  | _ => false

def readsO : Op → Bool
  | .load .. => true
  | _ => false

/-- Two states are alike to an operation. -/
structure Alike (p : Op) (fl : Bool) (st st' : St) : Prop where
  op : ∀ o ∈ p.operands, st'.opd o = st.opd o
  mem : readsM p = true → MemKept st.mem st'.mem
  om : readsO p = true → fl = true ∨ OmKept st.om st'.om

theorem opds_alike {st st' : St} {ps : List (Nat × Operand)} (h : ∀ p ∈ ps, st'.opd p.2 = st.opd p.2) : opds st' ps = opds st ps := by
  unfold opds
  exact List.map_congr_left fun p hp => by rw [h p hp]

theorem det_ex (cx : Cx) {fl : Bool} {st st' : St} {dst : Option Tmp} {op : Op} (hP : isP cx op = true) (A : Alike op fl st st') {K : St → Prop} (h : @exR cx fl st dst op ⟨K⟩) :
    ∃ v, K (st.set dst v) ∧ ∀ K' : St → Prop, K' (st'.set dst v) → @exR cx fl st' dst op ⟨K'⟩ := by
  obtain ⟨hn, h⟩ := h
  -- the shape that all have
  have fin : ∀ (F F' : (V → Prop) → Prop), Det F F' → (∀ K : St → Prop, @ex cx st dst op ⟨K⟩ = F fun v => K (st.set dst v)) → (∀ K : St → Prop, @ex cx st' dst op ⟨K⟩ = F' fun v => K (st'.set dst v)) →
      seen fl st' op →
      ∃ v, K (st.set dst v) ∧ ∀ K' : St → Prop, K' (st'.set dst v) → @exR cx fl st' dst op ⟨K'⟩ := by
    intro F F' hD e1 e2 hn'
    rw [e1] at h
    obtain ⟨v, h1, h2⟩ := hD _ h
    exact ⟨v, h1, fun K' hK => ⟨hn', by rw [e2]; exact h2 _ hK⟩⟩
  have tr : ∀ fl : Bool, (∀ t a, op ≠ .load t a) → seen fl st' op := by
    intro fl hne
    unfold seen
    split
    · exact absurd rfl (hne _ _)
    · rename_i c
      unfold notOw
      split
      · rename_i hc
        simp [isP, hc] at hP
      · trivial
    · trivial
  have ho := A.op
  cases op <;> simp only [isP] at hP <;> try (exact absurd hP Bool.false_ne_true)
  case move x => exact fin (fun K => K (st.opd x)) (fun K => K (st.opd x)) (.ret _) (fun _ => rfl) (fun K => by rw [← ho x (by simp [Op.operands])]; rfl) (tr _ (by simp))
  case assign x => exact fin (fun K => K (st.opd x)) (fun K => K (st.opd x)) (.ret _) (fun _ => rfl) (fun K => by rw [← ho x (by simp [Op.operands])]; rfl) (tr _ (by simp))
  case pick c a b =>
    refine fin (fun K => @pickB (st.opd c) ⟨K (st.opd a)⟩ ⟨K (st.opd b)⟩) (fun K => @pickB (st.opd c) ⟨K (st.opd a)⟩ ⟨K (st.opd b)⟩) ?_ (fun _ => rfl)
      (fun K => by rw [← ho c (by simp [Op.operands]), ← ho a (by simp [Op.operands]), ← ho b (by simp [Op.operands])]; rfl) (tr _ (by simp))
    intro K h
    obtain ⟨x, hx, h1, h2⟩ := pickB_inv h
    rw [hx]
    cases x
    · exact ⟨_, h2 rfl, fun K' hK => ⟨nofun, fun _ => hK⟩⟩
    · exact ⟨_, h1 rfl, fun K' hK => ⟨fun _ => hK, nofun⟩⟩
  case build t ps =>
    have e : opds st' ps.toList = opds st ps.toList := opds_alike fun p hp => ho p.2 (by simp only [Op.operands]; exact List.mem_toArray.2 (List.mem_map.2 ⟨p, hp, rfl⟩))
    exact fin _ _ (det_build cx t (opds st ps.toList)) (fun _ => rfl) (fun K => by rw [← e]; rfl) (tr _ (by simp))
  case load t a =>
    have e := ho a (by simp [Op.operands])
    refine fin _ _ (det_load cx (A.mem rfl) t (st.opd a) ?_) (fun _ => rfl) (fun K => by rw [← e]; rfl) (by unfold seen at hn ⊢; cases fl <;> simp_all)
    rcases A.om rfl with hf | hf
    · subst hf
      left
      intro i o hx
      simp [seen, hx, notObj] at hn
    · exact .inr hf
  case nilCheck x => exact fin _ _ (det_nilCheck (st.opd x)) (fun _ => rfl) (fun K => by rw [← ho x (by simp [Op.operands])]; rfl) (tr _ (by simp))
  case unOp op t x => exact fin _ _ (det_un op (st.opd x)) (fun _ => rfl) (fun K => by rw [← ho x (by simp [Op.operands])]; rfl) (tr _ (by simp))
  case convert s d x => exact fin (fun K => @ti cx s ⟨fun _ => @ti cx d ⟨fun di => @conv di.k (st.opd x) ⟨K⟩⟩⟩) _ (.ti fun _ => .ti fun di => det_conv di.k (st.opd x)) (fun _ => rfl) (fun K => by rw [← ho x (by simp [Op.operands])]; rfl) (tr _ (by simp))
  case makeInterface t x => exact fin (fun K => @ti cx t ⟨fun i => i.cn = true ∧ K (.ifc t (st.opd x))⟩) _ (.ti fun _ => .and id (.ret _)) (fun _ => rfl) (fun K => by rw [← ho x (by simp [Op.operands])]; rfl) (tr _ (by simp))
  case makeFunc f fs cs =>
    have e1 : fs.toList.map st'.opd = fs.toList.map st.opd := List.map_congr_left fun x hx => ho x (by simp only [Op.operands]; exact Array.mem_append.2 (.inl (Array.mem_toList_iff.1 hx)))
    have e2 : cs.toList.map st'.opd = cs.toList.map st.opd := List.map_congr_left fun x hx => ho x (by simp only [Op.operands]; exact Array.mem_append.2 (.inr (Array.mem_toList_iff.1 hx)))
    exact fin (fun K => K (.fn f (fs.toList.map st.opd) (cs.toList.map st.opd))) _ (.ret _) (fun _ => rfl) (fun K => by rw [← e1, ← e2]; rfl) (tr _ (by simp))
  case slice t x lo hi mx =>
    have ex := ho x (by simp [Op.operands])
    have opt : ∀ y : Option Operand, (∀ o ∈ y, o ∈ (Op.slice t x lo hi mx).operands) → y.map st'.opd = y.map st.opd := by
      intro y hy
      cases y with
      | none => rfl
      | some o => simp [ho o (hy o rfl)]
    have e1 := opt lo (fun o h => by simp only [Op.operands]; cases lo <;> simp_all)
    have e2 := opt hi (fun o h => by simp only [Op.operands]; cases hi <;> simp_all)
    have e3 := opt mx (fun o h => by simp only [Op.operands]; cases mx <;> simp_all)
    exact fin _ _ (det_slice cx t (st.opd x) (lo.map st.opd) (hi.map st.opd) (mx.map st.opd)) (fun _ => rfl) (fun K => by rw [← ex, ← e1, ← e2, ← e3]; rfl) (tr _ (by simp))
  case fieldAddr t x f =>
    exact fin (fun K => @fieldAddr cx t (st.opd x) f ⟨K⟩) (fun K => @fieldAddr cx t (st.opd x) f ⟨K⟩) (by unfold fieldAddr; exact det_fieldOf cx t f fun a b => det_addr _ _) (fun _ => rfl) (fun K => by rw [← ho x (by simp [Op.operands])]; rfl) (tr _ (by simp))
  case field t x f =>
    refine fin (fun K => @fieldOf cx t f ⟨fun off ft => @ti cx ft ⟨fun fi => match st.opd x with | .agg cs => @part fi cs off ⟨K⟩ | _ => False⟩⟩) (fun K => @fieldOf cx t f ⟨fun off ft => @ti cx ft ⟨fun fi => match st.opd x with | .agg cs => @part fi cs off ⟨K⟩ | _ => False⟩⟩)
      (det_fieldOf cx t f fun off ft => .ti fun fi => ?_) (fun _ => rfl) (fun K => by rw [← ho x (by simp [Op.operands])]; rfl) (tr _ (by simp))
    cases st.opd x <;> first | exact .no _ | exact det_part _ _ _
  case indexAddr t x ix => exact fin _ _ (det_indexAddr cx (A.mem rfl) t (st.opd x) (st.opd ix)) (fun _ => rfl) (fun K => by rw [← ho x (by simp [Op.operands]), ← ho ix (by simp [Op.operands])]; rfl) (tr _ (by simp))
  case index t x ix =>
    refine fin (fun K => @indexV cx t (st.opd x) (st.opd ix) ⟨K⟩) (fun K => @indexV cx t (st.opd x) (st.opd ix) ⟨K⟩) ?_ (fun _ => rfl) (fun K => by rw [← ho x (by simp [Op.operands]), ← ho ix (by simp [Op.operands])]; rfl) (tr _ (by simp))
    unfold indexV
    refine .ti fun i => ?_
    cases i.k <;> first | exact .no _ | skip
    · cases st.opd x <;> first | exact .no _ | skip
      cases st.opd ix <;> first | exact .no _ | skip
      exact .ti fun ei => .and id (det_part _ _ _)
    · cases st.opd x <;> first | exact .no _ | skip
      cases st.opd ix <;> first | exact .no _ | exact .and id (.ret _)
  case extract x j =>
    refine fin (fun K => match st.opd x with | .tup vs => @so _ vs[j]? ⟨K⟩ | _ => False) (fun K => match st.opd x with | .tup vs => @so _ vs[j]? ⟨K⟩ | _ => False) ?_ (fun _ => rfl) (fun K => by rw [← ho x (by simp [Op.operands])]; rfl) (tr _ (by simp))
    cases st.opd x <;> first | exact .no _ | exact .so fun v => .ret v
  case binOp op t x y yt =>
    cases ht : cx.T t with
    | none => simp [ht] at hP
    | some i =>
      simp only [ht, Bool.not_eq_true'] at hP
      refine fin (fun K => @ti cx t ⟨fun i => @bin op i.k (st.opd x) (st.opd y) ⟨K⟩⟩) (fun K => @ti cx t ⟨fun i => @bin op i.k (st.opd x) (st.opd y) ⟨K⟩⟩) ?_ (fun _ => rfl)
        (fun K => by rw [← ho x (by simp [Op.operands]), ← ho y (by simp [Op.operands])]; rfl) (tr _ (by simp))
      unfold ti
      rw [ht]
      exact det_bin op i.k _ _ hP
  case call c =>
    have e : c.args.toList.map st'.opd = c.args.toList.map st.opd := List.map_congr_left fun x hx => ho x (by simp only [Op.operands, Call.operands]; split <;> simp_all)
    cases hc : c.callee with
    | value f => simp [hc] at hP
    | invoke r m => simp [hc] at hP
    | builtin b =>
      cases b <;> simp only [hc] at hP <;> try (exact absurd hP Bool.false_ne_true)
      · refine fin (fun K => match c.args.toList.map st.opd, c.argTypes.toList with | [x], [t] => @ti cx t ⟨fun i => @lenV i.k x ⟨fun n => K (.z n)⟩⟩ | _, _ => False) (fun K => match c.args.toList.map st.opd, c.argTypes.toList with | [x], [t] => @ti cx t ⟨fun i => @lenV i.k x ⟨fun n => K (.z n)⟩⟩ | _, _ => False)
          ?_ (fun K => by simp only [ex, exCall, hc]; rfl) (fun K => by rw [← e]; simp only [ex, exCall, hc]; rfl) (tr _ (by simp))
        split
        · exact .ti fun i => .bind (det_lenV _ _) fun n => .ret _
        · exact .no _
      · refine fin (fun K => match c.args.toList.map st.opd with | x :: l => @so _ (foldMx true x l) ⟨K⟩ | _ => False) (fun K => match c.args.toList.map st.opd with | x :: l => @so _ (foldMx true x l) ⟨K⟩ | _ => False)
          ?_ (fun K => by simp only [ex, exCall, hc]; rfl) (fun K => by rw [← e]; simp only [ex, exCall, hc]; rfl) (tr _ (by simp))
        split
        · exact .so fun v => .ret v
        · exact .no _
      · refine fin (fun K => match c.args.toList.map st.opd with | x :: l => @so _ (foldMx false x l) ⟨K⟩ | _ => False) (fun K => match c.args.toList.map st.opd with | x :: l => @so _ (foldMx false x l) ⟨K⟩ | _ => False)
          ?_ (fun K => by simp only [ex, exCall, hc]; rfl) (fun K => by rw [← e]; simp only [ex, exCall, hc]; rfl) (tr _ (by simp))
        split
        · exact .so fun v => .ret v
        · exact .no _
end Go.Proofs.Ytaojebdjkpdcdaa.I
