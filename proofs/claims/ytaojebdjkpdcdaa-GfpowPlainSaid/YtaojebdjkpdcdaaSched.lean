/- Regions that draw their order: a tree of orders is enough. -/
import Derived.Test.YtaojebdjkpdcdaaFrame
import Derived.Orders
namespace Go.Proofs.Ytaojebdjkpdcdaa.I
open Go
set_option linter.unusedVariables false
set_option linter.unusedSimpArgs false

section
variable (cx : Cx) (fl : Bool) (ops : List Oper)

/-- Does the guard let it go? -/
def want (o : Oper) (st : St) : Option Bool :=
  match o.guard with
  | none => some true
  | some (j, w) => match (ops.map (·.dst)).getD j none with
    | some d => match st.env.getD d .u with
      | .b x => some (x == w)
      | .tup _ => some false
      | _ => none
    | none => none

theorem set_same {st : St} {d : Nat} {x : Bool} (h : st.env.getD d .u = .b x) : st.set (some d) (.b x) = st := by
  have hlt : d < st.env.length := by
    rcases Nat.lt_or_ge d st.env.length with h' | h'
    · exact h'
    · simp [List.getD, List.getElem?_eq_none h'] at h
  have e : st.env[d] = .b x := by simpa [List.getD, hlt] using h
  cases st with
  | mk env mem om =>
    simp only [St.set]
    congr 1
    simp only at e hlt
    rw [← e]; exact List.set_getElem_self hlt

theorem exG_iff {o : Oper} {st : St} {K : St → Prop} : @exG cx fl ops o st ⟨K⟩ ↔ ∃ b, want ops o st = some b ∧ (b = true → @exR cx fl st o.dst o.op ⟨K⟩) ∧ (b = false → K (st.set o.dst (.tup []))) := by
  unfold exG want
  cases o.guard with
  | none => simp
  | some jw =>
    obtain ⟨j, w⟩ := jw
    simp only
    cases (ops.map (·.dst)).getD j none with
    | none => simp [so]
    | some d =>
      simp only [so, guarded]
      cases hx : st.env.getD d .u <;> try (simp; done)
      · rename_i x
        simp only [Option.some.injEq, exists_eq_left', spl]
        cases w <;> cases x <;> simp [set_same hx]

/-- The slots that an operation looks at. -/
def looks (o : Oper) : List Tmp :=
  (o.op.operands.toList.filterMap fun | .tmp t => some t | _ => none) ++
  (match o.guard with | some (j, _) => ((ops.map (·.dst)).getD j none).toList | none => [])

/-- x may be done before or behind y. -/
def indep (x y : Oper) : Bool :=
  (match x.dst with | some d => !(looks ops y).contains d && y.dst != some d | none => true) &&
  (match y.dst with | some d => !(looks ops x).contains d | none => true) &&
  (!readsM x.op || !muts y.op) && (!readsO x.op || fl || !effs cx y.op)

theorem opd_set {st : St} {dst : Option Tmp} {v : V} {o : Operand} (h : ∀ d, dst = some d → o ≠ .tmp d) : (st.set dst v).opd o = st.opd o := by
  cases dst with
  | none => rfl
  | some d =>
    cases o with
    | tmp t =>
      have : d ≠ t := fun e => h d rfl (by rw [e])
      simp only [St.opd, St.set, List.getD]
      rw [List.getElem?_set_ne this]
    | _ => rfl

theorem looks_op {o : Oper} {d : Tmp} (h : d ∉ looks ops o) : ∀ x ∈ o.op.operands, x ≠ .tmp d := fun x hx e => h (by
  subst e
  exact List.mem_append_left _ (List.mem_filterMap.2 ⟨.tmp d, by simpa using hx, rfl⟩))

theorem want_set {o : Oper} {st : St} {dst : Option Tmp} {v : V} (h : ∀ d, dst = some d → d ∉ looks ops o) : want ops o (st.set dst v) = want ops o st := by
  cases dst with
  | none => rfl
  | some d =>
    unfold want
    cases hg : o.guard with
    | none => rfl
    | some jw =>
      obtain ⟨j, w⟩ := jw
      simp only
      cases ht : (ops.map (·.dst)).getD j none with
      | none => rfl
      | some t =>
        have hne : d ≠ t := fun e => h d rfl (by subst e; exact List.mem_append_right _ (by rw [hg]; simp only; rw [ht]; simp))
        simp only [St.set, List.getD]
        rw [List.getElem?_set_ne hne]

theorem want_mem {o : Oper} {env : List V} {m m' : Mem} {om om' : Om} : want ops o ⟨env, m, om⟩ = want ops o ⟨env, m', om'⟩ := rfl

theorem set_comm {st : St} {x y : Option Tmp} {v v' : V} (h : ∀ d, x = some d → y ≠ some d) : (st.set x v).set y v' = (st.set y v').set x v := by
  cases x with
  | none => rfl
  | some d =>
    cases y with
    | none => rfl
    | some e =>
      have hne : d ≠ e := fun he => h d rfl (he ▸ rfl)
      simp only [St.set]
      rw [List.set_comm _ _ hne]
end

section
variable {cx : Cx} {fl : Bool} {ops : List Oper}

/-- What is alike to an operation and its guard. -/
structure AlikeG (ops : List Oper) (fl : Bool) (x : Oper) (st s : St) : Prop where
  len : s.env.length = st.env.length
  a : Alike x.op fl st s
  w : want ops x s = want ops x st

theorem detG {x : Oper} {st : St} {K : St → Prop} (hP : isP cx x.op = true) (h : @exG cx fl ops x st ⟨K⟩) :
    ∃ v, K (st.set x.dst v) ∧ ∀ s, AlikeG ops fl x st s → ∀ K' : St → Prop, K' (s.set x.dst v) → @exG cx fl ops x s ⟨K'⟩ := by
  obtain ⟨b, hb, h1, h2⟩ := (exG_iff cx fl ops).1 h
  cases b with
  | false => exact ⟨.tup [], h2 rfl, fun s A K' hK => (exG_iff cx fl ops).2 ⟨false, by rw [A.w]; exact hb, nofun, fun _ => hK⟩⟩
  | true =>
    have hx := h1 rfl
    obtain ⟨v, hv, hv2⟩ := det_ex cx hP (st' := st) ⟨fun _ _ => rfl, fun _ => MemKept.refl _, fun _ => Or.inr (.refl _)⟩ hx
    refine ⟨v, hv, fun s A K' hK => (exG_iff cx fl ops).2 ⟨true, by rw [A.w]; exact hb, fun _ => ?_, nofun⟩⟩
    obtain ⟨v', e, hv'⟩ := det_ex cx hP (st' := s) A.a (hv2 (fun s => s = st.set x.dst v) rfl)
    have e2 : s.set x.dst v' = s.set x.dst v := by
      cases hd : x.dst with
      | none => rfl
      | some d =>
        rw [hd] at e
        simp only [St.set, St.mk.injEq, and_true] at e ⊢
        by_cases hl : d < st.env.length
        · have h1 : (st.env.set d v')[d]? = (st.env.set d v)[d]? := by rw [e]
          simp [hl] at h1
          rw [h1]
        · have hl' := A.len
          have hl2 : s.env.length ≤ d := by rw [hl']; exact Nat.le_of_not_lt hl
          rw [List.set_eq_of_length_le hl2, List.set_eq_of_length_le hl2]
    exact hv' K' (by rw [e2]; exact hK)

theorem swap (hmono : ∀ f c, lk cx.cs f = some c → Mono c) (hqs : ∀ f c, cx.qs.contains f = true → lk cx.cs f = some c → Quiet c) {x y : Oper} {st : St} {K : St → Prop} (hP : isP cx x.op = true) (hi : indep cx fl ops x y = true) (h : @exG cx fl ops x st ⟨fun s => @exG cx fl ops y s ⟨K⟩⟩) :
    @exG cx fl ops y st ⟨fun s => @exG cx fl ops x s ⟨K⟩⟩ := by
  obtain ⟨v, hv, hx⟩ := detG hP h
  simp only [indep, Bool.and_eq_true] at hi
  obtain ⟨⟨⟨i1, i2⟩, i3⟩, i4⟩ := hi
  have d1 : ∀ d, x.dst = some d → d ∉ looks ops y ∧ y.dst ≠ some d := fun d hd => by
    rw [hd] at i1; simpa using i1
  have d2 : ∀ d, y.dst = some d → d ∉ looks ops x := fun d hd => by
    rw [hd] at i2; simpa using i2
  obtain ⟨b, hb, h1, h2⟩ := (exG_iff cx fl ops).1 hv
  rw [want_set ops fun d hd => (d1 d hd).1] at hb
  have al : ∀ y₁ m om, (muts y.op = false → MemKept st.mem m) → (effs cx y.op = false → OmKept st.om om) → AlikeG ops fl x st (out st y.dst y₁ m om) := fun y₁ m om hm ho => by
    refine ⟨by cases hy : y.dst <;> simp [out, St.set], ⟨fun o ho' => ?_, fun hr => ?_, fun hr => ?_⟩, ?_⟩
    · unfold out
      rw [opd_set fun d hd e => looks_op ops (d2 d hd) o ho' e]
      cases o <;> rfl
    · have : muts y.op = false := by simpa [hr] using i3
      have := hm this
      unfold out
      cases y.dst <;> exact this
    · cases fl with
      | true => exact .inl rfl
      | false =>
        have : effs cx y.op = false := by simpa [hr] using i4
        have := ho this
        unfold out
        cases y.dst <;> exact .inr this
    · unfold out
      rw [want_set ops d2]
      rfl
  have comm : ∀ y₁ m om, (out st y.dst y₁ m om).set x.dst v = out (st.set x.dst v) y.dst y₁ m om := fun y₁ m om => by
    unfold out
    rw [set_comm (x := y.dst) (y := x.dst) fun d hd hx => (d1 d hx).2 hd]
    cases x.dst <;> rfl
  refine (exG_iff cx fl ops).2 ⟨b, hb, fun e => ?_, fun e => ?_⟩
  · refine ex_frame hmono hqs (st := st.set x.dst v) (fun o ho' => (opd_set fun d hd e => looks_op ops (d1 d hd).1 o ho' e).symm) (by cases x.dst <;> rfl) (by cases x.dst <;> rfl) (fun y₁ m om hm ho hK => ?_) (h1 e)
    have hm' : muts y.op = false → MemKept st.mem m := fun e => by have := hm e; cases hx' : x.dst <;> simpa [hx', St.set] using this
    have ho' : effs cx y.op = false → OmKept st.om om := fun e => by have := ho e; cases hx' : x.dst <;> simpa [hx', St.set] using this
    refine hx _ (al y₁ m om hm' ho') K ?_
    rw [comm]; exact hK
  · have := h2 e
    have e1 : st.set y.dst (.tup []) = out st y.dst (.tup []) st.mem st.om := by cases hy : y.dst <;> rfl
    rw [e1]
    refine hx _ (al (.tup []) st.mem st.om (fun _ => .refl _) (fun _ => .refl _)) K ?_
    rw [comm]
    have e2 : out (st.set x.dst v) y.dst (.tup []) st.mem st.om = (st.set x.dst v).set y.dst (.tup []) := by
      unfold out
      cases x.dst <;> rfl
    rw [e2]; exact this

theorem exG_mono {x : Oper} {st : St} {K K' : St → Prop} (hP : isP cx x.op = true) (hK : ∀ s, K s → K' s) (h : @exG cx fl ops x st ⟨K⟩) : @exG cx fl ops x st ⟨K'⟩ := by
  obtain ⟨v, hv, h2⟩ := detG hP h
  exact h2 st ⟨rfl, ⟨fun _ _ => rfl, fun _ => MemKept.refl _, fun _ => Or.inr (.refl _)⟩, rfl⟩ K' (hK _ hv)

/-! ### trees of orders -/

def Sch.alts : Sch → List Nat
  | .alt i _ r => i :: r.alts
  | _ => []

/-- May x be taken first, before all that are not yet done? -/
def canTake (cx : Cx) (fl : Bool) (ops : Array Oper) (x : Nat) (listed : Array Bool) : Bool :=
  match ops[x]? with
  | none => false
  | some ox => isP cx ox.op && (List.range ops.size).all fun i => match ops[i]? with
    | none => true
    | some o => listed.getD i false || i == x || indep cx fl ops.toList ox o || o.after.any fun e => Region.binds .any e && e.on == x

/-- Does a tree tell of all orders? -/
def okT (cx : Cx) (fl : Bool) (ops : Array Oper) : Sch → Bool → Array Bool → Bool
  | .done, true, l => (Region.ready .any ops l).isEmpty
  | .take i n, true, l => (Region.ready .any ops l).contains i && canTake cx fl ops i l && okT cx fl ops n true (l.setIfInBounds i true)
  | .alt i n r, top, l => (Region.ready .any ops l).contains i && okT cx fl ops n true (l.setIfInBounds i true) && okT cx fl ops r false l && (!top || (Region.ready .any ops l).all ((Sch.alt i n r).alts.contains ·))
  | .no, false, _ => true
  | _, _, _ => false

theorem getD_set (l : Array Bool) (x i : Nat) (d : Bool) (h : i ≠ x) : (l.setIfInBounds x true).getD i d = l.getD i d := by
  simp only [Array.getD_eq_getD_getElem?]
  rw [Array.getElem?_setIfInBounds_ne (fun e => h e.symm)]

theorem getD_set_le (l : Array Bool) (x i : Nat) (h : l.getD i false = true) : (l.setIfInBounds x true).getD i false = true := by
  by_cases e : i = x
  · subst e
    simp only [Array.getD_eq_getD_getElem?, Array.getElem?_setIfInBounds_self] at h ⊢
    split
    · simp
    · rename_i hn; simp [Array.getElem?_eq_none (Nat.le_of_not_lt hn)] at h
  · rw [getD_set l x i false e]; exact h

theorem ready_iff {ops : Array Oper} {l : Array Bool} {i : Nat} : i ∈ Region.ready .any ops l ↔ i < ops.size ∧ l.getD i true = false ∧ ∃ o, ops[i]? = some o ∧ ∀ e ∈ o.after, Region.binds .any e = true → l.getD e.on false = true := by
  unfold Region.ready
  simp only [List.mem_filter, List.mem_range, Bool.and_eq_true, Bool.not_eq_true']
  constructor
  · rintro ⟨h1, h2, h3⟩
    refine ⟨h1, h2, ?_⟩
    cases ho : ops[i]? with
    | none => simp [ho] at h3
    | some o =>
      refine ⟨o, rfl, fun e he hb => ?_⟩
      simp only [ho, Option.map_some, Option.getD_some] at h3
      rw [Array.all_eq_true'] at h3
      have := h3 e he
      simpa [hb] using this
  · rintro ⟨h1, h2, o, ho, h3⟩
    refine ⟨h1, h2, ?_⟩
    simp only [ho, Option.map_some, Option.getD_some]
    rw [Array.all_eq_true']
    intro e he
    cases hb : Region.binds .any e with
    | false => simp
    | true => simpa [hb] using h3 e he hb

theorem ready_mono {ops : Array Oper} {l : Array Bool} {i x : Nat} (h : i ∈ Region.ready .any ops l) (hne : i ≠ x) : i ∈ Region.ready .any ops (l.setIfInBounds x true) := by
  obtain ⟨h1, h2, o, ho, h3⟩ := ready_iff.1 h
  exact ready_iff.2 ⟨h1, by rw [getD_set l x i true hne]; exact h2, o, ho, fun e he hb => getD_set_le l x _ (h3 e he hb)⟩

theorem canTake_mono {ops : Array Oper} {l : Array Bool} {x i : Nat} (h : canTake cx fl ops x l = true) : canTake cx fl ops x (l.setIfInBounds i true) = true := by
  unfold canTake at h ⊢
  cases hx : ops[x]? with
  | none => simp [hx] at h
  | some ox =>
    simp only [hx, Bool.and_eq_true, List.all_eq_true] at h ⊢
    refine ⟨h.1, fun j hj => ?_⟩
    have := h.2 j hj
    cases hj' : ops[j]? with
    | none => rfl
    | some o =>
      simp only [hj', Bool.or_eq_true] at this ⊢
      rcases this with ((h1 | h1) | h1) | h1
      · exact .inl (.inl (.inl (getD_set_le l i j h1)))
      · exact .inl (.inl (.inr h1))
      · exact .inl (.inr h1)
      · exact .inr h1

theorem canTake_indep {ops : Array Oper} {l : Array Bool} {x i : Nat} (h : canTake cx fl ops x l = true) (hx : x ∈ Region.ready .any ops l) (hi : i ∈ Region.ready .any ops l) (hne : i ≠ x) :
    ∃ ox oi, ops[x]? = some ox ∧ ops[i]? = some oi ∧ isP cx ox.op = true ∧ indep cx fl ops.toList ox oi = true := by
  obtain ⟨_, hx2, ox, hox, _⟩ := ready_iff.1 hx
  obtain ⟨hi1, hi2, oi, hoi, hi3⟩ := ready_iff.1 hi
  unfold canTake at h
  simp only [hox, Bool.and_eq_true, List.all_eq_true] at h
  refine ⟨ox, oi, hox, hoi, h.1, ?_⟩
  have := h.2 i (List.mem_range.2 hi1)
  simp only [hoi, Bool.or_eq_true] at this
  have f : ∀ j, l.getD j true = false → l.getD j false = false := fun j h => by
    simp only [Array.getD_eq_getD_getElem?] at h ⊢
    cases hj : l[j]? <;> simp_all
  rcases this with ((h1 | h1) | h1) | h1
  · rw [f i hi2] at h1; cases h1
  · exact absurd (by simpa using h1) hne
  · exact h1
  · rw [Array.any_eq_true'] at h1
    obtain ⟨e, he, h1⟩ := h1
    simp only [Bool.and_eq_true, beq_iff_eq] at h1
    have := hi3 e he h1.1
    rw [h1.2, f x hx2] at this; cases this

theorem bring_alt {ops : Array Oper} {l : Array Bool} {i : Nat} : ∀ (t : Sch) (top : Bool), okT cx fl ops t top l = true → i ∈ t.alts →
    ∃ n, okT cx fl ops n true (l.setIfInBounds i true) = true ∧ ∀ st (K : St → Prop), @exT cx fl ops.toList t st ⟨K⟩ → ∃ o, ops[i]? = some o ∧ @exG cx fl ops.toList o st ⟨fun s => @exT cx fl ops.toList n s ⟨K⟩⟩
  | .alt j n r, top, h, hi => by
    simp only [okT, Bool.and_eq_true] at h
    by_cases e : i = j
    · subst e
      refine ⟨n, h.1.1.2, fun st K hT => ?_⟩
      simp only [exT] at hT
      obtain ⟨o, ho, hT⟩ := so_inv hT.1
      exact ⟨o, by simpa using ho, hT⟩
    · obtain ⟨n', h1, h2⟩ := bring_alt r false h.1.2 (by
        rcases List.mem_cons.1 hi with h | h
        · exact absurd h e
        · exact h)
      exact ⟨n', h1, fun st K hT => h2 st K (by simp only [exT] at hT; exact hT.2)⟩
  | .done, _, _, hi => by cases hi
  | .take _ _, _, _, hi => by cases hi
  | .no, _, _, hi => by cases hi

theorem bring (hmono : ∀ f c, lk cx.cs f = some c → Mono c) (hqs : ∀ f c, cx.qs.contains f = true → lk cx.cs f = some c → Quiet c) {ops : Array Oper} : ∀ (t : Sch) (l : Array Bool) (i : Nat), okT cx fl ops t true l = true → i ∈ Region.ready .any ops l →
    ∃ n, okT cx fl ops n true (l.setIfInBounds i true) = true ∧ ∀ st (K : St → Prop), @exT cx fl ops.toList t st ⟨K⟩ → ∃ o, ops[i]? = some o ∧ @exG cx fl ops.toList o st ⟨fun s => @exT cx fl ops.toList n s ⟨K⟩⟩
  | .done, l, i, h, hi => by
    simp only [okT, List.isEmpty_iff] at h
    rw [h] at hi; cases hi
  | .take x n, l, i, h, hi => by
    simp only [okT, Bool.and_eq_true] at h
    obtain ⟨⟨h1, h2⟩, h3⟩ := h
    have hxr : x ∈ Region.ready .any ops l := by simpa using h1
    by_cases e : i = x
    · subst e
      refine ⟨n, h3, fun st K hT => ?_⟩
      simp only [exT] at hT
      obtain ⟨o, ho, hT⟩ := so_inv hT
      exact ⟨o, by simpa using ho, hT⟩
    · obtain ⟨n', k1, k2⟩ := bring hmono hqs n (l.setIfInBounds x true) i h3 (ready_mono hi e)
      obtain ⟨ox, oi, hox, hoi, hP, hind⟩ := canTake_indep h2 hxr hi e
      refine ⟨.take x n', ?_, fun st K hT => ?_⟩
      · simp only [okT, Bool.and_eq_true]
        refine ⟨⟨by simpa using ready_mono hxr (fun e' => e e'.symm), canTake_mono h2⟩, ?_⟩
        rw [Array.setIfInBounds_comm _ _ (fun e' => e e')]
        exact k1
      · simp only [exT] at hT
        obtain ⟨o, ho, hT⟩ := so_inv hT
        have : o = ox := by
          have ho' : ops[x]? = some o := by simpa using ho
          rw [hox] at ho'; exact (Option.some.inj ho').symm
        subst this
        refine ⟨oi, hoi, ?_⟩
        have hT' : @exG cx fl ops.toList o st ⟨fun s => @exG cx fl ops.toList oi s ⟨fun s => @exT cx fl ops.toList n' s ⟨K⟩⟩⟩ := by
          refine exG_mono hP (fun s hs => ?_) hT
          obtain ⟨o', ho', hs⟩ := k2 s K hs
          rw [hoi] at ho'; injection ho' with ho'; subst ho'
          exact hs
        have hs := swap hmono hqs hP hind hT'
        have e2 : (fun s => @exT cx fl ops.toList (.take x n') s ⟨K⟩) = fun s => @exG cx fl ops.toList o s ⟨fun s => @exT cx fl ops.toList n' s ⟨K⟩⟩ := by
          funext s
          have hx' : ops.toList[x]? = some o := by simpa using hox
          simp only [exT, hx', so]
        rw [e2]
        exact hs
  | .alt j n r, l, i, h, hi => by
    refine bring_alt _ true h ?_
    simp only [okT, Bool.and_eq_true] at h
    have := h.2
    simp only [Bool.not_true, Bool.false_or, List.all_eq_true] at this
    simpa using this i hi
  | .no, l, i, h, hi => by simp [okT] at h
end
end Go.Proofs.Ytaojebdjkpdcdaa.I
