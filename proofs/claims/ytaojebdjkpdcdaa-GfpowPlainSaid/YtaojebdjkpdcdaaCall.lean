/- Calls. -/
import Derived.Test.YtaojebdjkpdcdaaEx1
namespace Go.Proofs.Ytaojebdjkpdcdaa.I
open Go

section
variable {P : Program}

/-- Where an operation may come out. -/
def After (B : Base) (K : St → Prop) (a : Act) (w : World) : Prop := ∃ st X own, K st ∧ X.w = w ∧ Rel B X own st a

/-- A layout with another one's homes. -/
def Lay.homes (Y X : Lay) : Lay := { Y with live := X.live, j := X.j, cap := X.cap, L := X.L }

/-- What lies in a block that is of no object is as it was. -/
theorem Kept.le {X Y : Lay} {om om' : Om} (h : Kept ⟨X.w, X.S, om, []⟩ Y om') (g : Good X om) : X.Le (Y.homes X) where
  S := h.fS
  w := fun b o hs => by
    refine World.cell?_of_block (h.fb b (g.sb b o hs) ?_)
    show om b = none
    cases e : om b with
    | none => rfl
    | some cs => exact absurd hs ((g.ob b cs e).S o)
  live := fun _ h => h
  hm := fun _ _ => .inl ⟨rfl, rfl, rfl⟩

theorem Rel.good {B : Base} {X : Lay} {own : Nat → Prop} {st : St} {a : Act} (R : Rel B X own st a) : Good X st.om := ⟨R.ob, R.sb⟩

theorem Rel.called {B : Base} {X Y : Lay} {own : Nat → Prop} {st : St} {a : Act} (R : Rel B X own st a) {om' : Om} (h : Kept ⟨X.w, X.S, st.om, []⟩ Y om') :
    Rel B (Y.homes X) own ⟨st.env, st.mem, om'⟩ a := by
  have le := h.le R.good
  have blk : ∀ g, X.live g → own g → (X.j g).1 < X.w.heap.size ∧ Y.w.heap[(X.j g).1]? = X.w.heap[(X.j g).1]? := fun g hl ho => by
    obtain ⟨H, hH⟩ := Option.isSome_iff_exists.1 ((R.lv g).1 hl)
    have hb : (X.j g).1 < X.w.heap.size := by
      rcases (R.hm _ _ hH).lay with ⟨_, _, _, _, ⟨cur', ty', h1, _⟩, _⟩ | ⟨h1, _⟩
      · exact (Array.getElem?_eq_some_iff.1 h1).1
      · exact absurd ho h1
    exact ⟨hb, h.fb _ hb (R.dj g hl ho)⟩
  refine ⟨R.tm, fun k g g' => (R.rp k g g').mono le, R.df, R.lv, ?_, R.ij, ?_, fun id cs hcs => ?_, h.sb, R.fn.trans h.fn, ?_, fun b o hs => h.fS b o (R.fS b o hs), ?_, ?_⟩
  · intro g G hG
    have hl : X.live g := (R.lv g).2 (by simp [hG])
    exact (R.hm _ _ hG).mono le rfl rfl rfl Iff.rfl (fun ho => (blk g hl ho).2) fun o ho hs => h.fS' _ o hs (blk g hl ho).1
  · intro g hl ho
    cases e : om' (X.j g).1 with
    | none => exact e
    | some cs => exact absurd (R.dj g hl ho) (h.fo _ (by rw [e]; simp) (blk g hl ho).1)
  · have ht := h.ob id cs hcs
    exact ⟨ht.cl, by
      obtain ⟨cur, ty, h1, h2, h3, h4⟩ := ht.cells
      refine ⟨cur, ty, h1, h2, h3, fun k hk hk' => ⟨?_, (h4 k hk hk').2⟩⟩
      exact Rep.move (X := Y) (Y := Y.homes X) (fun _ _ h => h) (fun _ _ _ => rfl) (h4 k hk hk').1 ((cleans_iff _).1 ht.cl _ (List.getElem_mem _)), ht.S⟩
  · intro b hb ho
    have : st.om b = none := by
      cases e : st.om b with
      | none => rfl
      | some cs => exact absurd ho (R.fo b (by rw [e]; simp) hb)
    show Y.w.heap[b]? = _
    rw [h.fb b (Nat.lt_of_lt_of_le hb R.fn.size) this]
    exact R.fb b hb ho
  · intro b o hs hb
    exact R.fS' b o (h.fS' b o hs (Nat.lt_of_lt_of_le hb R.fn.size)) hb
  · intro id hid hb
    exact R.fo id (h.fo id hid (Nat.lt_of_lt_of_le hb R.fn.size)) hb

theorem call_sound {cx : Cx} (C : COk P cx) {B : Base} {X : Lay} {own : Nat → Prop} {st : St} {a : Act} (R : Rel B X own st a) {dst : Option Tmp} {f : FuncId} {args : List V} {vs : List Value} {K : St → Prop}
    (h : @call cx st dst f args ⟨K⟩) (hr : RepL X vs args) :
    ((∀ args w, (callFunc f args).run P w = .ok (.enter f args) w) ∧ Calls P f vs.toArray X.w fun e w' => ∃ v, e = .returned v ∧ After B K (a.put dst v) w') ∨
    ∃ v, (callFunc f vs.toArray).run P X.w = .ok (.value v) X.w ∧ After B K (a.put dst v) X.w := by
  unfold call at h
  obtain ⟨st1, Y, ys, h, le, ew, R1, hys, hcl, e1, e2⟩ := gives_sound R h hr
  obtain ⟨c, hc, h⟩ := so_inv h
  rcases C.cs _ _ hc with hok | hok
  rotate_left 1
  · obtain ⟨v, r, hrun, hrep, hQ⟩ := hok.gives Y st1.om ys vs _ R1.good hys hcl h
    rw [ew] at hrun
    exact .inr ⟨v, hrun, _, Y, own, hQ hrep.wf, ew, R1.set dst hrep⟩
  refine .inl ⟨hok.run, ?_⟩
  have := hok.tells Y st1.om ys vs _ R1.good hys hcl h
  rw [Tells, ew] at this
  refine Calls.mono this ?_
  rintro e w' ⟨v, Z, r, om', rfl, rfl, hQ, hrep, hrc, hk⟩
  refine ⟨v, rfl, _, Z.homes Y, own, hQ hrep.wf, rfl, ?_⟩
  rw [← ew] at hk
  exact (R1.called hk).set dst (Rep.move (X := Z) (Y := Z.homes Y) (fun _ _ h => h) (fun _ _ _ => rfl) hrep hrc)

/-- A round is asked for. -/
theorem yield_sound {B : Base} {X : Lay} {own : Nat → Prop} {st : St} {a : Act} (R : Rel B X own st a) {dst : Option Tmp} {l : Nat} {c : Cn} (Y : YOk P B l c) {args : List V} {vs : List Value} {K : St → Prop}
    (h : @gives st args ⟨fun st args => @c args st.om ⟨fun r om => r.wf → K ((⟨st.env, st.mem, om⟩ : St).set dst r)⟩⟩) (hr : RepL X vs args) :
    ∃ r : Loop, X.w.heap[l]? = some (.loop r) ∧ vs.length = r.params.size ∧
      ∀ F n, FW F → RoundIn F n P l r.fn ((r.params.zip vs.toArray).foldl (fun tmps (t, a) => tmps.setIfInBounds t a) r.tmps) r.assign r.body X.w fun e w' => ∃ v, e = .returned v ∧ After B K (a.put dst v) w' := by
  obtain ⟨st1, Z, ys, h, le, ew, R1, hys, hcl, e1, e2⟩ := gives_sound R h hr
  obtain ⟨r, h1, h2, h3⟩ := Y.tells Z st1.om ys vs _ R1.reach R1.good hys hcl h
  rw [ew] at h1 h3
  refine ⟨r, h1, h2, fun F n hF => (h3 F n hF).mono ?_⟩
  rintro e w' ⟨v, Y', x, om', rfl, rfl, hQ, hrep, hrc, hk⟩
  exact ⟨v, rfl, _, Y'.homes Z, own, hQ hrep.wf, rfl, (R1.called hk).set dst (Rep.move (X := Y') (Y := Y'.homes Z) (fun _ _ h => h) (fun _ _ _ => rfl) hrep hrc)⟩

/-- What an operation does: every kind of it. -/
def OStep (P : Program) (B : Base) (o : Oper) (st : St) (K : St → Prop) : Prop :=
  ∀ X own a, Rel B X own st a → ∀ F n Q, FW F → o.wpIn F n P a X.w (After B K) Q

theorem wpIn_of_upon {F : Fence} {n : Nat} {o : Oper} {a : Act} {w : World} {K : Act → World → Prop} {Q : Exit → Act → World → Prop} (hF : FW F) (hd : ∀ c, o.op ≠ .defer c) (h : o.uponIn F n P a K Q ((execOp a.eval o).run P w)) : o.wpIn F n P a w K Q :=
  ⟨fun f _ => hF.fn f, by rw [Oper.semAt_eq _ _ _ hd]; exact h⟩

theorem Step.o {B : Base} {o : Oper} {st : St} {K : St → Prop} (hd : ∀ c, o.op ≠ .defer c) (h : Step P B o st K) : OStep P B o st K := by
  intro X own a R F m Q hF
  obtain ⟨st', X', own', n, u, hK, hrun, hn, R'⟩ := h X own a R
  refine wpIn_of_upon hF hd ?_
  rw [hrun]
  rcases hn with rfl | ⟨rfl, rfl⟩
  · exact ⟨st', X', own', hK, rfl, R'⟩
  · exact ⟨st', X', own', hK, rfl, R'⟩
end
end Go.Proofs.Ytaojebdjkpdcdaa.I
