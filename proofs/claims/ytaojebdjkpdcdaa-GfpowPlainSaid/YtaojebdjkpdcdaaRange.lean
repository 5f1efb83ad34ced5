/- Whole bodies: what their code does. -/
import Derived.Test.YtaojebdjkpdcdaaCode
namespace Go.Proofs.Ytaojebdjkpdcdaa.I
open Go
set_option linter.unusedVariables false
set_option linter.unusedSimpArgs false

section
variable {P : Program}

/-- A base that comes behind another one. -/
structure Ext (B B' : Base) : Prop where
  fn : Grown B.w B'.w
  fb : ∀ b, b < B.w.heap.size → B.om b = none → B'.w.heap[b]? = B.w.heap[b]?
  fS : ∀ b o, B.S b o → B'.S b o
  fS' : ∀ b o, B'.S b o → b < B.w.heap.size → B.S b o
  fo : ∀ id, B'.om id ≠ none → id < B.w.heap.size → B.om id ≠ none
  mks : ∃ ms : List Nat, B'.ds = ms.map (fun D => { target := .collected D, args := #[] }) ++ B.ds ∧ ms.Nodup ∧ ∀ D ∈ ms, B.w.heap.size ≤ D ∧ D < B'.w.heap.size ∧ B'.om D = none ∧ B'.w.heap[D]? = some (.deferred (some []))

theorem Ext.refl (B : Base) : Ext B B := ⟨.refl _, fun _ _ _ => rfl, fun _ _ h => h, fun _ _ h _ => h, fun _ h _ => h, [], rfl, .nil, fun D h => by cases h⟩

theorem none_of {om om' : Om} {b n : Nat} (fo : ∀ id, om' id ≠ none → id < n → om id ≠ none) (h : b < n) (e : om b = none) : om' b = none := by
  cases e' : om' b with
  | none => rfl
  | some cs => exact absurd e (fo b (by rw [e']; simp) h)

theorem Ext.trans {A B C : Base} (h : Ext A B) (g : Ext B C) : Ext A C := by
  have hs := h.fn.size
  obtain ⟨m1, d1, n1, p1⟩ := h.mks
  obtain ⟨m2, d2, n2, p2⟩ := g.mks
  refine ⟨h.fn.trans g.fn, fun b hb e => (g.fb b (by omega) (none_of h.fo hb e)).trans (h.fb b hb e), fun b o hs => g.fS b o (h.fS b o hs), fun b o hs hb => h.fS' b o (g.fS' b o hs (by omega)) hb,
    fun id hid hb => h.fo id (g.fo id hid (by omega)) hb, m2 ++ m1, by rw [d2, d1]; simp, ?_, fun D hD => ?_⟩
  · refine List.nodup_append.2 ⟨n2, n1, fun x hx y hy e => ?_⟩
    have := (p2 x hx).1
    have := (p1 y hy).2.1
    omega
  · rcases List.mem_append.1 hD with hD | hD
    · obtain ⟨q1, q2, q3, q4⟩ := p2 D hD
      exact ⟨by omega, q2, q3, q4⟩
    · obtain ⟨q1, q2, q3, q4⟩ := p1 D hD
      exact ⟨q1, Nat.lt_of_lt_of_le q2 g.fn.size, none_of g.fo q2 q3, (g.fb D q2 q3).trans q4⟩

theorem Reach.behind {B : Base} {X : Lay} {om : Om} {w : World} {S : Nat → Nat → Prop} {om0 : Om} {ds : List Deferred} (h : Reach ⟨w, S, om0, ds⟩ X om) (h1 : Grown B.w w) (h2 : ∀ b, b < B.w.heap.size → B.om b = none → w.heap[b]? = B.w.heap[b]?)
    (h3 : ∀ b o, B.S b o → S b o) (h4 : ∀ id, om0 id ≠ none → id < B.w.heap.size → B.om id ≠ none) : Reach B X om := by
  have hs := h1.size
  exact ⟨h1.trans h.fn, fun b hb e => (h.fb b (by show b < w.heap.size; omega) (none_of h4 hb e)).trans (h2 b hb e), fun b o hs => h.fS b o (h3 b o hs), fun id hid hb => h4 id (h.fo id hid (by show id < w.heap.size; omega)) hb⟩

/-- Where a body may come out. -/
def AfterX (B : Base) (K : St → Prop) (a : Act) (w : World) : Prop := ∃ B' st X own, Ext B B' ∧ K st ∧ X.w = w ∧ Rel B' X own st a

theorem After.x {B : Base} {K : St → Prop} {a : Act} {w : World} : After B K a w → AfterX B K a w
  | ⟨st, X, own, hK, e, R⟩ => ⟨B, st, X, own, .refl B, hK, e, R⟩

def noRange : Code → Bool
  | .rangeFunc _ _ _ _ => false
  | .seq a b => noRange a && noRange b
  | .cond _ a b => noRange a && noRange b
  | .block _ c => noRange c
  | .loop c => noRange c
  | .scope c => noRange c
  | _ => true

/-- All constants in a body have ideal values. -/
def okCode (cx : Cx) : Code → Bool
  | .region _ ops false => ops.toList.all fun o => goodOp o.op
  | .region id ops true => (ops.toList.all fun o => goodOp o.op) && match lkS cx.sch id with
    | some (fl, t) => okT cx fl ops t true (Array.replicate ops.size false)
    | none => false
  | .seq a b => okCode cx a && okCode cx b
  | .cond c a b => goodO c && okCode cx a && okCode cx b
  | .block _ c => okCode cx c
  | .loop c => okCode cx c
  | .scope c => okCode cx c
  | .rangeFunc g _ a c => goodO g && (okCode cx a && okCode cx c && (noRange a && noRange c))
  | _ => true

/-- How a body's exits are told. -/
def QR (B : Base) (Q : Ex → St → Prop) : Exit → Act → World → Prop
  | .normal, a, w => AfterX B (Q .nrm) a w
  | .exit id, a, w => AfterX B (Q (.exit id)) a w
  | .ret, a, w => AfterX B (Q .ret) a w
  | _, _, _ => False

theorem condB_inv {c : V} {A B : Prop} (h : @condB c ⟨A⟩ ⟨B⟩) : ∃ x, c = .b x ∧ (x = true → A) ∧ (x = false → B) := by
  unfold condB at h
  split at h
  · exact ⟨_, rfl, h⟩
  · exact h.elim

theorem AfterX.ext {B B' : Base} (h : Ext B B') {K : St → Prop} {a : Act} {w : World} : AfterX B' K a w → AfterX B K a w
  | ⟨B'', s, X, own, hE, hK, e, R⟩ => ⟨B'', s, X, own, h.trans hE, hK, e, R⟩

theorem QR.ext {B B' : Base} (h : Ext B B') {Q : Ex → St → Prop} {e : Exit} {a : Act} {w : World} (hq : QR B' Q e a w) : QR B Q e a w := by
  cases e <;> first | exact hq.elim | exact AfterX.ext h hq

/-! ### rounds -/

theorem Grown.putObj {a b : World} (h : Grown a b) (l : Nat) (o : Obj) : Grown a (b.putObj l o) := ⟨by rw [World.putObj_size]; exact h.size, h.os, h.tape, h.output⟩

/-- A layout whose world has another object, that is of no cells, where one was. -/
def Lay.putObj (X : Lay) (l : Nat) (o : Obj) : Lay := { X with w := X.w.putObj l o, live := fun _ => False }

theorem at_put {X : Lay} {l : Nat} {o o' : Obj} (h : X.w.heap[l]? = some o') (h1 : ∀ cs ty q, o ≠ .cells cs ty q) (h2 : ∀ cs ty q, o' ≠ .cells cs ty q) (b k : Nat) : (X.putObj l o).at b k = X.at b k := by
  unfold Lay.at Lay.putObj
  by_cases e : b = l
  · subst e
    have hl : b < X.w.heap.size := (Array.getElem?_eq_some_iff.1 h).1
    simp only [World.cell?, World.putObj_heap_same hl, h]
    cases o <;> cases o' <;> simp_all
  · exact World.cell?_of_block (World.putObj_heap_other e)

theorem Thing.put {X : Lay} {id : Nat} {cs : List V} (t : Thing X id cs) {l : Nat} {o : Obj} (hn : id ≠ l) (le : ∀ v x, Rep X v x → x.clean = true → Rep (X.putObj l o) v x) : Thing (X.putObj l o) id cs := by
  obtain ⟨cur, ty, c1, c2, c3, c4⟩ := t.cells
  exact ⟨t.cl, ⟨cur, ty, (World.putObj_heap_other hn).trans c1, c2, c3, fun k hk hk' => ⟨le _ _ (c4 k hk hk').1 ((cleans_iff _).1 t.cl _ (List.getElem_mem hk)), (c4 k hk hk').2⟩⟩, t.S⟩

theorem clear1_rep {X : Lay} {v : Value} {x : V} (h : Rep X v x) {Y : Lay} (hm : x.clean = true → Rep Y v x) : Rep Y v (clear1 x) := by
  unfold clear1
  split
  · rename_i e; exact hm e
  · exact .u _

/-- The record of a loop changes its state: whoever goes on knows of no home of the call's own. -/
theorem Rel.putLoop {B : Base} {X : Lay} {own : Nat → Prop} {st : St} {a : Act} (R : Rel B X own st a) {l : Nat} {o o' : Obj} (h : X.w.heap[l]? = some o') (h1 : ∀ cs ty q, o ≠ .cells cs ty q) (h2 : ∀ cs ty q, o' ≠ .cells cs ty q) :
    Rel ⟨X.w.putObj l o, X.S, st.om, B.ds⟩ (X.putObj l o) (fun _ => False) ⟨st.env.map clear1, [], st.om⟩ a := by
  have hat := at_put h h1 h2
  have mv : ∀ v x, Rep X v x → x.clean = true → Rep (X.putObj l o) v x := fun v x hr hc => Rep.move (X := X) (Y := X.putObj l o) (fun _ _ h => h) (fun b k _ => hat b k) hr hc
  refine ⟨by rw [R.tm]; simp, fun k hk hk' => ?_, R.df, fun h => by simp [Mem.get, Lay.putObj], fun h H hH => by simp [Mem.get] at hH, fun _ _ h => h.elim, fun _ h => h.elim, fun id cs hcs => ?_, fun b k hs => ?_, .refl _, fun _ _ _ => rfl, fun _ _ h => h, fun _ _ h _ => h, fun _ h _ => h⟩
  · have hk0 : k < st.env.length := by simpa using hk
    have := R.rp k hk0 hk'
    simp only [List.getElem_map]
    exact clear1_rep this (mv _ _ this)
  · have ht := R.ob id cs hcs
    refine ht.put (fun e => ?_) mv
    subst e
    obtain ⟨cur, ty, c1, _⟩ := ht.cells
    rw [c1] at h; injection h with h; exact h2 _ _ _ h.symm
  · show b < (X.w.putObj l o).heap.size
    rw [World.putObj_size]; exact R.sb b k hs

theorem fill_rel {X : Lay} : ∀ (ts : List Tmp) (vs : List Value) (xs : List V) (t : Array Value) (e : List V), RepL X vs xs → ts.length = xs.length → t.size = e.length → (∀ k (h : k < e.length) (h' : k < t.size), Rep X t[k] e[k]) →
    ((ts.zip vs).foldl (fun t p => t.setIfInBounds p.1 p.2) t).size = (fillIn e ts xs).length ∧ ∀ k (h : k < (fillIn e ts xs).length) (h' : k < ((ts.zip vs).foldl (fun t p => t.setIfInBounds p.1 p.2) t).size), Rep X ((ts.zip vs).foldl (fun t p => t.setIfInBounds p.1 p.2) t)[k] (fillIn e ts xs)[k]
  | [], vs, xs, t, e, hr, hl, hs, h => by
    have : fillIn e [] xs = e := by cases xs <;> rfl
    simp only [List.zip_nil_left, List.foldl_nil, this]
    exact ⟨hs, h⟩
  | d :: ts, vs, xs, t, e, hr, hl, hs, h => by
    cases hr with
    | nil => simp at hl
    | cons hv hr =>
      rename_i v x vs xs
      simp only [List.zip_cons_cons, List.foldl_cons, fillIn]
      refine fill_rel ts vs xs _ _ hr (by simpa using hl) (by simp [hs]) fun k hk hk' => ?_
      by_cases ek : d = k
      · subst ek
        simp only [List.getElem_set_self, Array.getElem_setIfInBounds_self]
        exact hv
      · have e1 : (t.setIfInBounds d v)[k]'hk' = t[k]'(by simpa using hk') := Array.getElem_setIfInBounds_ne (by simpa using hk') ek
        have e2 : (e.set d x)[k]'hk = e[k]'(by simpa using hk) := List.getElem_set_ne ek _
        rw [e1, e2]
        exact h k (by simpa using hk) (by simpa using hk')

theorem wfs_of_repL {X : Lay} {vs : List Value} {args : List V} (hr : RepL X vs args) : wfs args := wfs_of_get fun k hk => (hr.get k (by rw [hr.len]; exact hk) hk).wf

theorem no_loop {X : Lay} {om : Om} (G : Good X om) {l : Nat} {o : Obj} (h : X.w.heap[l]? = some o) (h2 : ∀ cs ty q, o ≠ .cells cs ty q) : om l = none := by
  cases e : om l with
  | none => rfl
  | some cs =>
    obtain ⟨cur, ty, c1, _⟩ := (G.ob l cs e).cells
    rw [c1] at h; injection h with h; exact absurd h.symm (h2 _ _ _)

/-- A walk of code, as the theorem of all of it says. -/
def Walks (P : Program) (cx : Cx) (c : Code) : Prop :=
  ∀ (F : Fence) (m : Nat), FW F → (F = Fence.wide ∨ noRange c = true) → ∀ (B : Base), (∀ l c, cx.y = some (l, c) → YOk P B l c) → ∀ (st : St) (Q : Ex → St → Prop) (X : Lay) (own : Nat → Prop) (a : Act),
    @wpc cx c st ⟨Q⟩ → Rel B X own st a → c.wpIn F m P (QR B Q) a X.w

/-- Whoever asks for a round is told what the loop's body does. -/
theorem round_sound {cx : Cx} {assign c : Code} (W1 : Walks P cx assign) (W2 : Walks P cx c) (n1 : noRange assign = true) (n2 : noRange c = true) {B : Base} (Y : ∀ l c, cx.y = some (l, c) → YOk P B l c) {X : Lay} {own : Nat → Prop} {st : St} {a : Act} (R : Rel B X own st a)
    {fn : FuncId} {ps : Array Tmp} {D l : Nat} (hl : X.w.heap[l]? = some (.loop { state := .ready, pending := none, fn, tmps := a.tmps, params := ps, assign, body := c, defers := D })) (hne : B.w.heap.size ≤ l) {cy : Cn}
    (h : ∀ args om K, wfs args → @cy args om ⟨K⟩ → args.length = ps.size ∧
          @wpc cx assign ⟨fillIn (st.env.map clear1) ps.toList args, [], om⟩ ⟨fun | .nrm, st => @wpc cx c ⟨st.env.map clear1, [], st.om⟩ ⟨fun | .nrm, st => ∃ om', OmKept om' st.om ∧ K (.b true) om' | _, _ => False⟩ | _, _ => False⟩)
    (hm : Mono cy) : YOk P ⟨X.w, X.S, st.om, []⟩ l cy := by
  have hnl : ∀ cs ty q, (Obj.loop { state := .ready, pending := none, fn, tmps := a.tmps, params := ps, assign, body := c, defers := D }) ≠ .cells cs ty q := fun _ _ _ => by simp
  have hl0 : l < X.w.heap.size := (Array.getElem?_eq_some_iff.1 hl).1
  have hol : st.om l = none := no_loop R.good hl hnl
  refine ⟨hm, fun X' om args vs Q hr G hrep hcl hcy => ?_⟩
  have hs0 := hr.fn.size
  have hl1 : X'.w.heap[l]? = some (.loop { state := .ready, pending := none, fn, tmps := a.tmps, params := ps, assign, body := c, defers := D }) := (hr.fb l hl0 hol).trans hl
  obtain ⟨hlen, hw⟩ := h args om Q (wfs_of_repL hrep) hcy
  have hvl := hrep.len
  refine ⟨_, hl1, by show vs.length = ps.size; omega, fun F n hF => roundIn_of_wpIn (hF.fn _) ?_⟩
  rw [hF.round l]
  have hFr : FW (Fence.wide.inRound l) := .inr ⟨l, rfl⟩
  -- the slots, as the round knows them
  have mv : ∀ v x, Rep X v x → x.clean = true → Rep ({ X' with live := fun _ => False } : Lay) v x := fun v x hrp hc => Rep.move (X := X) (Y := { X' with live := fun _ => False }) (fun b o hs => hr.fS b o hs) (fun b o hs => by
    have hb := R.sb b o hs
    refine World.cell?_of_block (hr.fb b hb ?_)
    show st.om b = none
    cases e : st.om b with
    | none => rfl
    | some cs => exact absurd hs ((R.ob b cs e).S o)) hrp hc
  have hz : ((ps.zip vs.toArray).foldl (fun tmps (t, a) => tmps.setIfInBounds t a) a.tmps) = (ps.toList.zip vs).foldl (fun t p => t.setIfInBounds p.1 p.2) a.tmps := by
    rw [← Array.foldl_toList]
    simp
  have hfill := fill_rel (X := { X' with live := fun _ => False }) ps.toList vs args a.tmps (st.env.map clear1)
    (.of_get hvl fun k k1 k2 => Rep.move (X := X') (Y := { X' with live := fun _ => False }) (fun _ _ h => h) (fun _ _ _ => rfl) (hrep.get k k1 k2) ((cleans_iff _).1 hcl _ (List.getElem_mem k2))) (by simpa using hlen.symm) (by rw [R.tm]; simp) fun k hk hk' => by
      have hk0 : k < st.env.length := by simpa using hk
      have := R.rp k hk0 hk'
      simp only [List.getElem_map]
      exact clear1_rep this (mv _ _ this)
  have R0 : Rel ⟨X'.w, X'.S, om, []⟩ ({ X' with live := fun _ => False } : Lay) (fun _ => False) ⟨fillIn (st.env.map clear1) ps.toList args, [], om⟩ { tmps := (ps.zip vs.toArray).foldl (fun tmps (t, a) => tmps.setIfInBounds t a) a.tmps, defers := [] } := by
    rw [hz]
    refine ⟨hfill.1, hfill.2, rfl, fun h => by simp [Mem.get], fun h H hH => by simp [Mem.get] at hH, fun _ _ h => h.elim, fun _ h => h.elim, fun id cs hcs => ?_, G.sb, .refl _, fun _ _ _ => rfl, fun _ _ h => h, fun _ _ h _ => h, fun _ h _ => h⟩
    have ht := G.ob id cs hcs
    obtain ⟨cur, ty, c1, c2, c3, c4⟩ := ht.cells
    exact ⟨ht.cl, ⟨cur, ty, c1, c2, c3, fun k hk hk' => ⟨Rep.move (X := X') (Y := { X' with live := fun _ => False }) (fun _ _ h => h) (fun _ _ _ => rfl) (c4 k hk hk').1 ((cleans_iff _).1 ht.cl _ (List.getElem_mem hk)), (c4 k hk hk').2⟩⟩, ht.S⟩
  have hl0' : l < X'.w.heap.size := by have : X.w.heap.size ≤ X'.w.heap.size := hs0; omega
  have hol' : om l = none := no_loop G hl1 hnl
  have Y0 : ∀ l c, cx.y = some (l, c) → YOk P ⟨X'.w, X'.S, om, []⟩ l c := fun l c e => (Y l c e).reach fun Z oz hz => (hz.behind (B := ⟨X.w, X.S, st.om, []⟩) hr.fn hr.fb hr.fS hr.fo).behind R.fn R.fb R.fS R.fo
  refine wpIn_mono (W1 _ n hFr (.inr n1) _ Y0 _ _ ({ X' with live := fun _ => False } : Lay) _ _ hw R0) ?_
  rintro e a1 w1 hq
  cases e with
  | exit id => obtain ⟨_, _, _, _, _, hK, _⟩ := hq; exact hK.elim
  | goto t => exact hq.elim
  | ret => obtain ⟨_, _, _, _, _, hK, _⟩ := hq; exact hK.elim
  | panic ch => exact hq.elim
  | outgrown => exact hq.elim
  | normal =>
  obtain ⟨B1, st1, X1, own1, E1, hK, rfl, R1⟩ := hq
  -- what is reached from the round's beginning
  have hfb1 : ∀ b, b < X'.w.heap.size → om b = none → X1.w.heap[b]? = X'.w.heap[b]? := fun b hb e => (R1.fb b (by have := E1.fn.size; show b < B1.w.heap.size; exact Nat.lt_of_lt_of_le hb this) (none_of E1.fo hb e)).trans (E1.fb b hb e)
  have hl2 : X1.w.heap[l]? = some (.loop { state := .ready, pending := none, fn, tmps := a.tmps, params := ps, assign, body := c, defers := D }) := (hfb1 l hl0' hol').trans hl1
  refine ⟨_, run_beginRound hl2 rfl, ?_⟩
  have hnb : ∀ cs ty q, (Obj.loop { state := .busy, pending := none, fn, tmps := a.tmps, params := ps, assign, body := c, defers := D }) ≠ .cells cs ty q := fun _ _ _ => by simp
  have R2 := R1.putLoop hl2 hnb hnl
  have hgr1 : Grown X'.w X1.w := E1.fn.trans R1.fn
  have hfS1 : ∀ b o, X'.S b o → X1.S b o := fun b o hs => R1.fS b o (E1.fS b o hs)
  have hfS1' : ∀ b o, X1.S b o → b < X'.w.heap.size → X'.S b o := fun b o hs hb => E1.fS' b o (R1.fS' b o hs (Nat.lt_of_lt_of_le hb E1.fn.size)) hb
  have hfo1 : ∀ id, st1.om id ≠ none → id < X'.w.heap.size → om id ≠ none := fun id hid hb => E1.fo id (R1.fo id hid (Nat.lt_of_lt_of_le hb E1.fn.size)) hb
  have hgr2 : Grown X'.w (X1.w.putObj l (.loop { state := .busy, pending := none, fn, tmps := a.tmps, params := ps, assign, body := c, defers := D })) := hgr1.putObj _ _
  have Y2 : ∀ l' c', cx.y = some (l', c') → YOk P ⟨X1.w.putObj l (.loop { state := .busy, pending := none, fn, tmps := a.tmps, params := ps, assign, body := c, defers := D }), X1.S, st1.om, B1.ds⟩ l' c' := fun l' c' e =>
    (Y l' c' e).reach fun Z oz hz => by
      -- the record itself is behind the base: it is new to whoever began the body
      have hB : Reach B X st.om := R.reach
      refine hz.behind (hB.fn.trans (hr.fn.trans hgr2)) (fun b hb eb => ?_) (fun b o hs => hfS1 b o (hr.fS b o (hB.fS b o hs))) (fun id hid hb => ?_)
      · have hb1 : b < X.w.heap.size := Nat.lt_of_lt_of_le hb hB.fn.size
        have eb1 : st.om b = none := none_of hB.fo hb eb
        have hb2 : b < X'.w.heap.size := Nat.lt_of_lt_of_le hb1 hs0
        have eb2 : om b = none := none_of hr.fo hb1 eb1
        by_cases el : b = l
        · omega
        · rw [World.putObj_heap_other el, hfb1 b hb2 eb2, hr.fb b hb1 eb1, hB.fb b hb eb]
      · have hb1 : id < X.w.heap.size := Nat.lt_of_lt_of_le hb hB.fn.size
        exact hB.fo id (hr.fo id (hfo1 id hid (Nat.lt_of_lt_of_le hb1 hs0)) hb1) hb
  refine wpIn_mono (W2 _ n hFr (.inr n2) _ Y2 _ _ _ _ _ hK R2) ?_
  rintro e a3 w3 hq
  cases e with
  | exit id => obtain ⟨_, _, _, _, _, hK, _⟩ := hq; exact hK.elim
  | goto t => exact hq.elim
  | ret => obtain ⟨_, _, _, _, _, hK, _⟩ := hq; exact hK.elim
  | panic ch => exact hq.elim
  | outgrown => exact hq.elim
  | normal =>
  obtain ⟨B3, st3, X3, own3, E3, ⟨om', hko, hQ⟩, rfl, R3⟩ := hq
  have hsz2 : (X1.w.putObj l (.loop { state := .busy, pending := none, fn, tmps := a.tmps, params := ps, assign, body := c, defers := D })).heap.size = X1.w.heap.size := World.putObj_size
  have hl01 : l < X1.w.heap.size := Nat.lt_of_lt_of_le hl0' hgr1.size
  have hol1 : st1.om l = none := none_of hfo1 hl0' hol'
  have hfb3 : ∀ b, b < X1.w.heap.size → st1.om b = none → X3.w.heap[b]? = (X1.w.putObj l (.loop { state := .busy, pending := none, fn, tmps := a.tmps, params := ps, assign, body := c, defers := D })).heap[b]? := fun b hb e =>
    (R3.fb b (Nat.lt_of_lt_of_le (by rw [← hsz2] at hb; exact hb) E3.fn.size) (none_of E3.fo (by rw [← hsz2] at hb; exact hb) e)).trans (E3.fb b (by rw [← hsz2] at hb; exact hb) e)
  have hl3 : X3.w.heap[l]? = some (.loop { state := .busy, pending := none, fn, tmps := a.tmps, params := ps, assign, body := c, defers := D }) := (hfb3 l hl01 hol1).trans (World.putObj_heap_same hl01)
  refine ⟨_, _, run_endRound none hl3, .bool true, X3.putObj l (.loop { state := .ready, pending := none, fn, tmps := a.tmps, params := ps, assign, body := c, defers := D }), .b true, om', rfl, rfl, hQ, .b true, rfl, ?_⟩
  have hat := at_put hl3 hnl hnb
  have mv3 : ∀ v x, Rep X3 v x → x.clean = true → Rep (X3.putObj l (.loop { state := .ready, pending := none, fn, tmps := a.tmps, params := ps, assign, body := c, defers := D })) v x := fun v x hr hc => Rep.move (X := X3) (Y := X3.putObj l _) (fun _ _ h => h) (fun b k _ => hat b k) hr hc
  have hgr3 : Grown X'.w X3.w := hgr2.trans (E3.fn.trans R3.fn)
  have hfo3 : ∀ id, st3.om id ≠ none → id < X1.w.heap.size → st1.om id ≠ none := fun id hid hb => E3.fo id (R3.fo id hid (Nat.lt_of_lt_of_le (by rw [← hsz2] at hb; exact hb) E3.fn.size)) (by rw [← hsz2] at hb; exact hb)
  have hko' : ∀ id, om' id ≠ none → st3.om id ≠ none := fun id hid => by
    cases e : om' id with
    | none => exact absurd e hid
    | some cs => rw [hko _ _ e]; simp
  refine ⟨fun id cs hcs => ?_, fun b k hs => ?_, hgr3.putObj _ _, fun b hb e => ?_, fun b o hs => R3.fS b o (E3.fS b o (hfS1 b o hs)), fun b o hs hb => ?_, fun id hid hb => ?_⟩
  · have ht := R3.ob id cs (hko _ _ hcs)
    refine ht.put (fun e => ?_) mv3
    subst e
    obtain ⟨cur, ty, c1, _⟩ := ht.cells
    rw [c1] at hl3; injection hl3 with hl3; cases hl3
  · show b < (X3.w.putObj l _).heap.size
    rw [World.putObj_size]; exact R3.sb b k hs
  · show (X3.w.putObj l _).heap[b]? = X'.w.heap[b]?
    by_cases el : b = l
    · subst el
      rw [World.putObj_heap_same (Nat.lt_of_lt_of_le hb hgr3.size), hl1]
    · have hb1 : b < X1.w.heap.size := Nat.lt_of_lt_of_le hb hgr1.size
      rw [World.putObj_heap_other el, hfb3 b hb1 (none_of hfo1 hb e), World.putObj_heap_other el]
      exact hfb1 b hb e
  · exact hfS1' b o (E3.fS' b o (R3.fS' b o hs (Nat.lt_of_lt_of_le (by show b < (X1.w.putObj l _).heap.size; rw [hsz2]; exact Nat.lt_of_lt_of_le hb hgr1.size) E3.fn.size)) (by show b < (X1.w.putObj l _).heap.size; rw [hsz2]; exact Nat.lt_of_lt_of_le hb hgr1.size)) hb
  · exact hfo1 id (hfo3 id (hko' id hid) (Nat.lt_of_lt_of_le hb hgr1.size)) hb

theorem YOk.ext {B B' : Base} {l : Nat} {c : Cn} (h : YOk P B l c) (e : Ext B B') : YOk P B' l c :=
  h.reach fun X om hr => hr.behind e.fn e.fb e.fS e.fo

theorem wpc_sound {cx : Cx} (C : COk P cx) (hx : P.follows .mixedOrders = true) : ∀ (c : Code), okCode cx c = true → Walks P cx c
  | .skip, _, F, m, hF, hn, B, Y, st, Q, X, own, a, h, R => wpIn_skip ⟨B, st, X, own, .refl B, h, rfl, R⟩
  | .label l, _, F, m, hF, hn, B, Y, st, Q, X, own, a, h, R => wpIn_label ⟨B, st, X, own, .refl B, h, rfl, R⟩
  | .ret, _, F, m, hF, hn, B, Y, st, Q, X, own, a, h, R => wpIn_ret ⟨B, st, X, own, .refl B, h, rfl, R⟩
  | .exit id, _, F, m, hF, hn, B, Y, st, Q, X, own, a, h, R => wpIn_exit ⟨B, st, X, own, .refl B, h, rfl, R⟩
  | .seq x y, hk, F, m, hF, hn, B, Y, st, Q, X, own, a, h, R => by
    simp only [okCode, Bool.and_eq_true] at hk
    have hn' : (F = Fence.wide ∨ noRange x = true) ∧ (F = Fence.wide ∨ noRange y = true) := by
      rcases hn with e | e
      · exact ⟨.inl e, .inl e⟩
      · simp only [noRange, Bool.and_eq_true] at e; exact ⟨.inr e.1, .inr e.2⟩
    refine wpIn_seq (wpIn_mono (wpc_sound C hx x hk.1 F m hF hn'.1 B Y st _ X own a h R) ?_)
    rintro e a w hq
    cases e with
    | normal =>
      obtain ⟨B', st', X', own', hE, hK, rfl, R'⟩ := hq
      exact wpIn_mono (wpc_sound C hx y hk.2 F m hF hn'.2 B' (fun l c e => (Y l c e).ext hE) st' Q X' own' a hK R') fun e a w hq => QR.ext hE hq
    | exit id => exact hq
    | goto l => exact hq.elim
    | ret => exact hq
    | panic ch => exact hq.elim
    | outgrown => exact hq.elim
  | .cond x y z, hk, F, m, hF, hn, B, Y, st, Q, X, own, a, h, R => by
    simp only [okCode, Bool.and_eq_true] at hk
    have hn' : (F = Fence.wide ∨ noRange y = true) ∧ (F = Fence.wide ∨ noRange z = true) := by
      rcases hn with e | e
      · exact ⟨.inl e, .inl e⟩
      · simp only [noRange, Bool.and_eq_true] at e; exact ⟨.inr e.1, .inr e.2⟩
    obtain ⟨b, hb, h1, h2⟩ := condB_inv h
    have hxx := R.opd hk.1.1
    rw [hb] at hxx
    have hc : a.eval x = .bool b := by generalize a.eval x = v at hxx; cases hxx; rfl
    cases b with
    | true => exact wpIn_cond_true hc (wpc_sound C hx y hk.1.2 F m hF hn'.1 B Y st Q X own a (h1 rfl) R)
    | false => exact wpIn_cond_false hc (wpc_sound C hx z hk.2 F m hF hn'.2 B Y st Q X own a (h2 rfl) R)
  | .block id c, hk, F, m, hF, hn, B, Y, st, Q, X, own, a, h, R => by
    simp only [okCode] at hk
    refine wpIn_block (wpIn_mono (wpc_sound C hx c hk F m hF hn B Y st _ X own a h R) ?_)
    rintro e a w hq
    cases e with
    | normal => exact hq
    | exit j =>
      simp only [QR] at hq
      simp only [Exit.inBlock]
      split
      · rename_i e; simp only [e, if_true] at hq; exact hq
      · rename_i e; simp only [e, if_false] at hq; exact hq
    | goto l => exact hq.elim
    | ret => exact hq
    | panic ch => exact hq.elim
    | outgrown => exact hq.elim
  | .scope c, hk, F, m, hF, hn, B, Y, st, Q, X, own, a, h, R => by
    simp only [okCode] at hk
    refine wpIn_scope' (wpIn_mono (wpc_sound C hx c hk F m hF hn B Y st Q X own a h R) ?_)
    rintro e a w hq
    cases e with
    | goto l => exact hq.elim
    | _ => exact hq
  | .loop c, hk, F, m, hF, hn, B, Y, st, Q, X, own, a, h, R => by
    simp only [okCode] at hk
    obtain ⟨σ, E, cc, μ, ⟨x, hcx, hle⟩, hround⟩ := h
    refine wpIn_loop_ix (I := fun x a w => cc x ∧ ∃ B' X own, Ext B B' ∧ X.w = w ∧ Rel B' X own (E x) a) μ (x := x) ⟨hcx, B, X.keep _ _, _, .refl B, rfl, R.weaken hle⟩ ?_
    rintro y a w ⟨hy, B', X, own, hE, rfl, R⟩
    refine wpIn_mono (wpc_sound C hx c hk F m hF hn B' (fun l c e => (Y l c e).ext hE) (E y) _ X own a (hround y hy) R) ?_
    rintro e a w hq
    cases e with
    | normal =>
      obtain ⟨B'', s, X, own, hE', ⟨z, hz, hle, hlt⟩, rfl, R⟩ := hq
      exact ⟨z, ⟨hz, B'', X.keep _ _, _, hE.trans hE', rfl, R.weaken hle⟩, hlt⟩
    | exit id => exact AfterX.ext hE hq
    | goto l => exact hq.elim
    | ret => exact AfterX.ext hE hq
    | panic ch => exact hq.elim
    | outgrown => exact hq.elim
  | .region id ops false, hk, F, m, hF, hn, B, Y, st, Q, X, own, a, h, R => by
    simp only [okCode] at hk
    refine wpIn_region ?_
    have := exs_sound C (B := B) Y (m := m) hF (ops := ops) (K := Q .nrm) (Q := QR B Q) (fun o ho => List.all_eq_true.1 hk o ho) (fun a w h => After.x h) ops.toList 0 rfl st X own a h R
    simpa [List.range_eq_range'] using this
  | .region id ops true, hk, F, m, hF, hn, B, Y, st, Q, X, own, a, h, R => by
    simp only [okCode, Bool.and_eq_true] at hk
    simp only [wpc] at h
    obtain ⟨⟨fl, t⟩, hp, h⟩ := so_inv h
    obtain ⟨hk1, hk2⟩ := hk
    simp only [hp] at hk2
    refine wpIn_region_any hx ?_
    have R' := R.drew (w := { X.w with drawn := X.w.drawn + 1 }) ⟨rfl, rfl, rfl, rfl⟩
    refine any_sound C Y hF (fl := fl) (K := Q .nrm) (Q := QR B Q) (fun o ho => List.all_eq_true.1 hk1 o ho) (fun a w h => After.x h) ops.size _ t st _ own a ?_ hk2 h R'
    exact leftN_le _ _
  | .goto _, _, _, _, _, _, _, _, _, _, _, _, _, h, _ => h.elim
  | .refuse _, _, _, _, _, _, _, _, _, _, _, _, _, h, _ => h.elim
  | .rangeFunc g ps assign c, hk, F, m, hF, hn, B, Y, st, Q, X, own, a, h, R => by
    simp only [okCode, Bool.and_eq_true] at hk
    obtain ⟨hg, ⟨hk1, hk2⟩, hn1, hn2⟩ := hk
    have hw : F = Fence.wide := by
      rcases hn with e | e
      · exact e
      · simp [noRange] at e
    subst hw
    simp only [wpc] at h
    unfold rangeR at h
    have hgv := R.opd hg
    split at h <;> first | exact h.elim | skip
    rename_i f caps hgf
    rw [hgf] at hgv
    obtain ⟨hcl, h⟩ := h
    obtain ⟨rc, hrc, cy, hround, hmono, h⟩ := so_inv h
    obtain ⟨ws, hev, hws⟩ : ∃ ws : Array Value, a.eval g = .func (.func f) #[] ws ∧ RepL X ws.toList caps := by
      generalize a.eval g = v at hgv
      cases hgv with
      | fn _ vs _ us _ z1 z2 h1 h2 =>
        have e1 : vs = #[] := by simpa using z1
        subst e1
        exact ⟨us, rfl, .of_arr z2 h2⟩
    have hok := C.rs f rc hrc
    refine wpIn_rangeFunc fun fn _ => ?_
    -- two blocks are laid
    obtain ⟨rec, hrec⟩ : ∃ rec : Loop, rec = { state := .ready, pending := none, fn, tmps := a.tmps, params := ps, assign, body := c, defers := X.w.heap.size } := ⟨_, rfl⟩
    obtain ⟨le1, R1⟩ := R.block (.deferred (some [])) 0
    obtain ⟨le2, R2⟩ := R1.block (.loop rec) 0
    obtain ⟨X2, hX2⟩ : ∃ X2, X2 = (X.block (.deferred (some [])) 0).block (.loop rec) 0 := ⟨_, rfl⟩
    rw [← hX2] at le2 R2
    have hw2 : X2.w = (X.w.alloc (.deferred (some []))).alloc (.loop rec) := by rw [hX2]; rfl
    have hl : X2.w.heap[X.w.heap.size + 1]? = some (.loop rec) := by
      rw [hw2]
      have := World.alloc_heap_new (X.w.alloc (.deferred (some []))) (.loop rec)
      rwa [World.size_alloc] at this
    have hD : X2.w.heap[X.w.heap.size]? = some (.deferred (some [])) := by
      rw [hw2, heap_alloc_old _ _ _ (by rw [World.size_alloc]; omega)]
      exact World.alloc_heap_new X.w _
    have hsz2 : X2.w.heap.size = X.w.heap.size + 2 := by rw [hw2, World.size_alloc, World.size_alloc]
    have hnl : ∀ r : Loop, ∀ cs ty q, (Obj.loop r) ≠ .cells cs ty q := fun _ _ _ _ => by simp
    have hol : st.om (X.w.heap.size + 1) = none := no_loop R2.good hl (hnl _)
    have hoD : st.om X.w.heap.size = none := no_loop R2.good hD fun _ _ _ => by simp
    have hBX := R.fn.size
    have yok : YOk P ⟨X2.w, X2.S, st.om, []⟩ (X.w.heap.size + 1) cy :=
      round_sound (wpc_sound C hx assign hk1) (wpc_sound C hx c hk2) hn1 hn2 Y R2 (by rw [hl, hrec]) (by omega) hround hmono
    have hcalls := hok.tells (X.w.heap.size + 1) cy X2 st.om caps ws.toList (fun _ om => Q .nrm ⟨st.env.map clear1, [], om⟩) yok R2.good ((hws.mono le1).mono le2) hcl h
    refine ⟨X.w.heap.size + 1, [{ target := .collected X.w.heap.size, args := #[] }], X2.w, { target := .fn (.func f) ws, args := #[.func (.yield (X.w.heap.size + 1)) #[] #[]] }, X2.w, f, #[.func (.yield (X.w.heap.size + 1)) #[] #[]] ++ ws, X2.w,
      ?_, ?_, fun _ _ => trivial, ?_, (fun hh => by cases hh), ?_⟩
    · have := run_enterLoop_outer (P := P) (w := X.w) fn a.tmps ps assign c
      rw [hw2, hrec]; exact this
    · have hcst : ∀ v, a.eval (.const v) = v := fun _ => rfl
      simp [resolve, rangeCall, Deferred.ofValue, hev, hcst]
    · simp [invoke, hok.run]
    · have hcalls' : Tells P f X2 st.om (#[.func (.yield (X.w.heap.size + 1)) #[] #[]] ++ ws) fun _ om => Q .nrm ⟨st.env.map clear1, [], om⟩ := by simpa using hcalls
      refine callsIn_wide.2 (Calls.mono hcalls' ?_)
      rintro e w' ⟨v, Z, r, om', rfl, rfl, hQ, hrep, _, hkept⟩
      have hl3 : Z.w.heap[X.w.heap.size + 1]? = some (.loop rec) := (hkept.fb _ (by show _ < X2.w.heap.size; omega) hol).trans hl
      have hr1 : rec.state = .ready := by rw [hrec]
      have hr2 : rec.pending = none := by rw [hrec]
      refine ⟨none, Z.w.putObj (X.w.heap.size + 1) (.loop { rec with state := .exhausted }), ?_, ?_⟩
      · rw [run_endLoop hl3 (by rw [hr1]; simp), hr2]
      · have hat := at_put hl3 (hnl { rec with state := .exhausted }) (hnl rec)
        have mvZ : ∀ v x, Rep Z v x → x.clean = true → Rep (Z.putObj (X.w.heap.size + 1) (.loop { rec with state := .exhausted })) v x := fun v x hr hc => Rep.move (X := Z) (Y := Z.putObj (X.w.heap.size + 1) (.loop { rec with state := .exhausted })) (fun _ _ h => h) (fun b k _ => hat b k) hr hc
        have mv : ∀ v x, Rep X v x → x.clean = true → Rep (Z.putObj (X.w.heap.size + 1) (.loop { rec with state := .exhausted })) v x := fun v x hr hc =>
          mvZ v x (Rep.move (X := X) (fun b o hs => hkept.fS b o (le2.S b o (le1.S b o hs))) (fun b o hs => by
            have e1 : X2.at b o = X.at b o := (le2.w b o (le1.S b o hs)).trans (le1.w b o hs)
            rw [← e1]
            refine World.cell?_of_block (hkept.fb b (R2.sb b o (le2.S b o (le1.S b o hs))) ?_)
            show st.om b = none
            cases e : st.om b with
            | none => rfl
            | some cs => exact absurd hs ((R.ob b cs e).S o)) hr hc) hc
        have hgr : Grown X.w Z.w := ⟨by have := hkept.fn.size; have h' : X2.w.heap.size ≤ Z.w.heap.size := this; omega, by rw [hkept.fn.os]; show X2.w.os = _; rw [hw2]; rfl, by rw [hkept.fn.tape]; show X2.w.tape = _; rw [hw2]; rfl, by rw [hkept.fn.output]; show X2.w.output = _; rw [hw2]; rfl⟩
        have hszZ : X2.w.heap.size ≤ Z.w.heap.size := hkept.fn.size
        have hfo : ∀ id, om' id ≠ none → id < X.w.heap.size → st.om id ≠ none := fun id hid hb => hkept.fo id hid (by show id < X2.w.heap.size; omega)
        refine ⟨⟨Z.w.putObj (X.w.heap.size + 1) (.loop { rec with state := .exhausted }), Z.S, om', { target := .collected X.w.heap.size, args := #[] } :: B.ds⟩, ⟨st.env.map clear1, [], om'⟩, Z.putObj (X.w.heap.size + 1) (.loop { rec with state := .exhausted }), fun _ => False, ?_, hQ, rfl, ?_⟩
        · refine ⟨(R.fn.trans hgr).putObj _ _, fun b hb e => ?_, fun b o hs => hkept.fS b o (le2.S b o (le1.S b o (R.fS b o hs))), fun b o hs hb => ?_, fun id hid hb => R.fo id (hfo id hid (by omega)) hb, [X.w.heap.size], rfl, by simp, fun D hDD => ?_⟩
          · rw [World.putObj_heap_other (by omega)]
            have e1 := hkept.fb b (by show b < X2.w.heap.size; omega) (none_of R.fo hb e)
            rw [e1]
            show X2.w.heap[b]? = _
            rw [hw2, heap_alloc_old _ _ _ (by rw [World.size_alloc]; omega), heap_alloc_old _ _ _ (by omega)]
            exact R.fb b hb e
          · have h1 := hkept.fS' b o hs (by show b < X2.w.heap.size; omega)
            exact R2.fS' b o h1 hb
          · rw [List.mem_singleton.1 hDD]
            refine ⟨hBX, by show _ < (Z.w.putObj _ _).heap.size; rw [World.putObj_size]; omega, none_of (n := X2.w.heap.size) (fun id hid hb => hkept.fo id hid hb) (by omega) hoD, ?_⟩
            show (Z.w.putObj _ _).heap[_]? = _
            rw [World.putObj_heap_other (by omega)]
            exact (hkept.fb _ (by show _ < X2.w.heap.size; omega) hoD).trans hD
        · refine ⟨by rw [R.tm]; simp, fun k hk hk' => ?_, by simp [R.df], fun h => by simp [Mem.get, Lay.putObj], fun h H hH => by simp [Mem.get] at hH, fun _ _ h => h.elim, fun _ h => h.elim, fun id cs hcs => ?_, fun b k hs => ?_, .refl _, fun _ _ _ => rfl, fun _ _ h => h, fun _ _ h _ => h, fun _ h _ => h⟩
          · have hk0 : k < st.env.length := by simpa using hk
            have := R.rp k hk0 hk'
            simp only [List.getElem_map]
            exact clear1_rep this (mv _ _ this)
          · have ht := hkept.ob id cs hcs
            refine ht.put (fun e => ?_) mvZ
            subst e
            obtain ⟨cur, ty, c1, _⟩ := ht.cells
            rw [c1] at hl3; injection hl3 with hl3; cases hl3
          · show b < (Z.w.putObj _ _).heap.size
            rw [World.putObj_size]; exact hkept.sb b k hs
end
end Go.Proofs.Ytaojebdjkpdcdaa.I
