/- A function keeps a contract, if its body does. -/
import Derived.Test.YtaojebdjkpdcdaaRange
namespace Go.Proofs.Ytaojebdjkpdcdaa.I
open Go
set_option linter.unusedVariables false
set_option linter.unusedSimpArgs false

section
variable {P : Program}

/-- One of a function's results. -/
def resF (tmps : Array Value) : ResultVar → Sem Value
  | .tmp t => pure (tmps.getD t undef)
  | .cell a t => do loadVar t (← asAddr (tmps.getD a undef))

def resV (P : Program) (w : World) (tmps : Array Value) (r : ResultVar) : Value :=
  match (resF tmps r).run P w with
  | .ok v _ => v
  | _ => undef

theorem resOne_sound {cx : Cx} (C : COk P cx) {B : Base} {X : Lay} {own : Nat → Prop} {st : St} {a : Act} (R : Rel B X own st a) {r : ResultVar} {K : V → Prop} (h : @resOne cx st r ⟨K⟩) :
    ∃ x, K x ∧ Rep X (resV P X.w a.tmps r) x ∧ (resF a.tmps r).run P X.w = .ok (resV P X.w a.tmps r) X.w := by
  cases r with
  | tmp t =>
    refine ⟨_, h, ?_, ?_⟩
    · have := R.get t
      simpa [resV, resF] using this
    · simp [resV, resF]
  | cell t ty =>
    have hx := R.get t
    have hp : ∃ ad, a.tmps.getD t undef = .pointer (some ad) := by
      simp only [resOne, load] at h
      obtain ⟨i, hi, h⟩ := ti_inv h
      split at h <;> first | exact h.elim | skip
      all_goals
        rename_i heq
        rw [heq] at hx
        generalize a.tmps.getD t undef = v at hx
        cases hx
        exact ⟨_, rfl⟩
    obtain ⟨ad, had⟩ := hp
    obtain ⟨x, u, hK, hr, hrun⟩ := load_sound C R h hx
    have e : (resF a.tmps (.cell t ty)).run P X.w = .ok u X.w := by
      rw [had] at hrun
      simp only [Instr.loadAt, Instr.sureAddr, Sem.run_bind, Sem.run_pure, Result.andThen_ok] at hrun
      simp [resF, had, asAddr, hrun]
    have ev : resV P X.w a.tmps (.cell t ty) = u := by simp [resV, e]
    exact ⟨x, hK, by rw [ev]; exact hr, by rw [e, ev]⟩

theorem resAll_sound {cx : Cx} (C : COk P cx) {B : Base} {X : Lay} {own : Nat → Prop} {st : St} {a : Act} (R : Rel B X own st a) : ∀ {rs : List ResultVar} {K : List V → Prop}, @resAll cx st rs ⟨K⟩ →
    ∃ xs, K xs ∧ RepL X (rs.map (resV P X.w a.tmps)) xs ∧ ∀ r ∈ rs, (resF a.tmps r).run P X.w = .ok (resV P X.w a.tmps r) X.w
  | [], K, h => ⟨[], h, .nil, by simp⟩
  | r :: rs, K, h => by
    obtain ⟨x, h, hr, hrun⟩ := resOne_sound C R h
    obtain ⟨xs, h, hrs, hruns⟩ := resAll_sound C R h
    refine ⟨x :: xs, h, .cons hr hrs, fun q hq => ?_⟩
    rcases List.mem_cons.1 hq with rfl | hq
    · exact hrun
    · exact hruns q hq

/-- An object is made fast: it is none any more. -/
theorem Rel.melt {B : Base} {X : Lay} {own : Nat → Prop} {st : St} {a : Act} (R : Rel B X own st a) {id : Nat} {cs : List V} (hcs : st.om id = some cs) (h0 : B.om id = none) :
    X.Le (X.fast id cs.length) ∧ Rel B (X.fast id cs.length) own ⟨st.env, st.mem, st.om.del id⟩ a ∧ Fixed (X.fast id cs.length) id 0 cs := by
  have le := X.fast_le id cs.length
  have ht := R.ob id cs hcs
  have hblk : id < X.w.heap.size := by
    obtain ⟨cur, ty, h1, _⟩ := ht.cells
    exact (Array.getElem?_eq_some_iff.1 h1).1
  have hb : B.w.heap.size ≤ id := by
    rcases Nat.lt_or_ge id B.w.heap.size with h | h
    · exact absurd h0 (R.fo id (by rw [hcs]; simp) h)
    · exact h
  refine ⟨le, ⟨R.tm, fun k g g' => (R.rp k g g').mono le, R.df, R.lv, ?_, R.ij, fun g hl ho => ?_, ?_, ?_, R.fn, R.fb, fun b o hs => .inl (R.fS b o hs), ?_, ?_⟩, ht.cells.fixed⟩
  · intro g G hG
    have hl : X.live g := (R.lv g).2 (by simp [hG])
    refine (R.hm _ _ hG).mono le rfl rfl rfl Iff.rfl (fun _ => rfl) fun o ho' hs => ?_
    rcases hs with hs | hs
    · exact hs
    · have := R.dj g hl ho'
      rw [hs.1, hcs] at this; cases this
  · have := R.dj g hl ho
    simp only [Om.del]
    split
    · rfl
    · exact this
  · intro i ds hds
    simp only [Om.del] at hds
    split at hds
    · cases hds
    · rename_i e
      have ht' := R.ob i ds hds
      refine ht'.mono le rfl fun o hs => ?_
      rcases hs with hs | hs
      · exact ht'.S o hs
      · exact e hs.1
  · intro b o hs
    rcases hs with hs | hs
    · exact R.sb b o hs
    · rw [hs.1]; exact hblk
  · intro b o hs hlt
    rcases hs with hs | hs
    · exact R.fS' b o hs hlt
    · rw [hs.1] at hlt; omega
  · intro i hi hlt
    simp only [Om.del] at hi
    split at hi
    · exact absurd rfl hi
    · exact R.fo i hi hlt

theorem melt_sound {B : Base} {X : Lay} {own : Nat → Prop} {st : St} {a : Act} (R : Rel B X own st a) {x : V} {K : St → V → Prop} {v : Value} (h : @I.melt B.om st x ⟨K⟩) (hx : Rep X v x) :
    ∃ st' Y y, K st' y ∧ X.Le Y ∧ Y.w = X.w ∧ Rel B Y own st' a ∧ Rep Y v y ∧ y.clean = true := by
  unfold I.melt at h
  split at h
  · rename_i id off len cap
    obtain ⟨h0, h⟩ := h
    obtain ⟨cs, hcs, ⟨h1, h2⟩, h⟩ := so_inv h
    obtain ⟨le, R', hf⟩ := R.melt hcs h0
    have hcl := (R.ob id cs hcs).cl
    have hlen : ((cs.drop off).take len).length = len := by simp; omega
    cases hx with
    | ow _ _ _ _ ad q1 q2 q3 =>
    refine ⟨_, _, _, h, le, rfl, R', ?_, rfl⟩
    by_cases e : len = 0
    · subst e; simp only [List.take_zero]; exact .sl0 _ _
    · have := q3 (by omega)
      subst this
      have hs := hf.sub off len
      rw [Nat.zero_add] at hs
      rw [← flat_one h2] at hs
      have := Rep.sl_fixed (c := cap) (by omega) q2 (cleans_take _ (cleans_drop _ hcl)) (uni_len h2) hs
      rwa [hlen] at this
  · obtain ⟨st', Y, y, h, le, ew, R', hy, hc, _⟩ := give_sound R h hx
    exact ⟨st', Y, y, h, le, ew, R', hy, hc⟩

theorem melts_sound {B : Base} {own : Nat → Prop} {a : Act} : ∀ {xs : List V} {vs : List Value} {X : Lay} {st : St} {K : St → List V → Prop}, Rel B X own st a → @melts B.om st xs ⟨K⟩ → RepL X vs xs →
    ∃ st' Y ys, K st' ys ∧ Y.w = X.w ∧ Rel B Y own st' a ∧ RepL Y vs ys ∧ cleans ys = true
  | xs, vs, X, st, K, R, h, hr => by
    suffices ∃ st' Y ys, K st' ys ∧ X.Le Y ∧ Y.w = X.w ∧ Rel B Y own st' a ∧ RepL Y vs ys ∧ cleans ys = true by
      obtain ⟨st', Y, ys, h1, _, h2⟩ := this
      exact ⟨st', Y, ys, h1, h2⟩
    induction xs generalizing vs X st K with
    | nil => cases hr; exact ⟨st, X, [], h, .refl X, rfl, R, .nil, rfl⟩
    | cons x xs ih =>
      cases hr with
      | cons hx hr =>
        simp only [melts] at h
        obtain ⟨st1, Y, y, h, le, ew, R1, hy, hc⟩ := melt_sound R h hx
        obtain ⟨st2, Z, ys, h, le2, ew2, R2, hys, hcs⟩ := @ih _ _ _ _ R1 h (hr.mono le)
        exact ⟨st2, Z, y :: ys, h, le.trans le2, ew2.trans ew, R2, .cons (hy.mono le2) hys, by simp [cleans, hc, hcs]⟩

theorem results_sound {cx : Cx} (C : COk P cx) {B : Base} {X : Lay} {own : Nat → Prop} {st : St} {a : Act} (R : Rel B X own st a) {fn : Func} {K : V → Om → Prop} (h : @results cx B.om st fn.results.toList ⟨K⟩) :
    ∃ v r Y om', (Go.results fn a.tmps).run P X.w = .ok v X.w ∧ K r om' ∧ Y.w = X.w ∧ Rep Y v r ∧ r.clean = true ∧ Kept B Y om' := by
  unfold results at h
  obtain ⟨xs, h, hxs, hruns⟩ := resAll_sound C R h
  obtain ⟨st', Y, ys, h, ew, R', hys, hcl⟩ : ∃ st' Y ys, K (told ys) st'.om ∧ Y.w = X.w ∧ Rel B Y own st' a ∧ RepL Y (fn.results.toList.map (resV P X.w a.tmps)) ys ∧ cleans ys = true := by
    split at h
    · obtain ⟨st', Y, ys, h, _, ew, R', hys, hcl, _, _⟩ := gives_sound R h hxs
      exact ⟨st', Y, ys, h, ew, R', hys, hcl⟩
    · exact melts_sound R h hxs
    · exact ⟨st, X, xs, h.2, rfl, R, hxs, h.1⟩
  have hk := R'.kept
  have hrun : (Go.results fn a.tmps).run P X.w = .ok (if h : (fn.results.map (resV P X.w a.tmps)).size = 1 then (fn.results.map (resV P X.w a.tmps))[0] else .tuple (fn.results.map (resV P X.w a.tmps))) X.w := by
    have hm := run_amapM_pure (P := P) (resF a.tmps) (resV P X.w a.tmps) X.w fn.results fun x hx => hruns x (Array.mem_toList_iff.2 hx)
    have e : Go.results fn a.tmps = (do let vs ← fn.results.mapM (resF a.tmps); pure (if h : vs.size = 1 then vs[0] else .tuple vs)) := by
      unfold Go.results
      congr 1
    rw [e, Sem.run_bind, hm]
    rfl
  refine ⟨_, _, Y, _, hrun, h, ew, ?_, ?_, hk⟩
  · have hl := hys.len
    simp only [List.length_map] at hl
    by_cases h1 : (fn.results.map (resV P X.w a.tmps)).size = 1
    · rw [dif_pos h1]
      obtain ⟨y, rfl⟩ := List.length_eq_one_iff.1 (show ys.length = 1 by rw [← hl]; simpa using h1)
      show Rep Y _ y
      have := hys.get 0 (by simp at hl; simp; omega) (by simp)
      simpa using this
    · rw [dif_neg h1]
      have et : told ys = .tup ys := by
        unfold told
        split
        · rename_i y
          exact absurd (by simpa using hl) h1
        · rfl
      rw [et]
      refine .tup _ _ (by simpa using hl) fun k k1 k2 => ?_
      have := hys.get k (by rw [List.length_map, hl]; exact k1) k1
      simpa using this
  · unfold told
    split
    · have := (cleans_iff _).1 hcl _ (List.mem_singleton.2 rfl); exact this
    · simpa [V.clean] using hcl

theorem Kept.less {B : Base} {X : Lay} {om om' : Om} (h : Kept B X om) (ho : OmKept om' om) : Kept B X om' :=
  ⟨fun id cs e => h.ob id cs (ho _ _ e), h.sb, h.fn, h.fb, h.fS, h.fS', fun id hid hlt => by
    cases e : om' id with
    | none => exact absurd e hid
    | some cs => exact h.fo id (by rw [ho _ _ e]; simp) hlt⟩

theorem Tells.less {f : FuncId} {X : Lay} {om : Om} {vs : Array Value} {Q Q' : V → Om → Prop} (hQ : ∀ r om', Q r om' → ∃ om'', OmKept om'' om' ∧ Q' r om'') (h : Tells P f X om vs Q) : Tells P f X om vs Q' := by
  refine Calls.mono h ?_
  rintro e w' ⟨v, Y, r, om', h1, h2, h3, h4, h5, h6⟩
  obtain ⟨om'', ho, hq⟩ := hQ _ _ h3
  exact ⟨v, Y, r, om'', h1, h2, hq, h4, h5, h6.less ho⟩

theorem Home.base {B B' : Base} {X : Lay} {own : Nat → Prop} {h : Nat} {H : Hm} (hm : Home B X own h H) (hs : B'.w.heap.size ≤ B.w.heap.size) : Home B' X own h H := by
  refine ⟨hm.L, hm.uni, ?_⟩
  rcases hm.lay with ⟨q0, q1, q2, q3, q4, q5, q6⟩ | q
  · exact .inl ⟨q0, q1, q2, q3, q4, Nat.le_trans hs q5, q6⟩
  · exact .inr q

/-- A base that is the same but for what is deferred. -/
theorem Rel.rebase {B B' : Base} {X : Lay} {own : Nat → Prop} {st : St} {a : Act} (R : Rel B' X own st a) (h : Ext B B') : Rel ⟨B.w, B.S, B.om, B'.ds⟩ X own st a := by
  have hs := h.fn.size
  refine ⟨R.tm, R.rp, R.df, R.lv, fun g G hG => ?_, R.ij, R.dj, R.ob, R.sb, h.fn.trans R.fn, fun b hb e => (R.fb b (Nat.lt_of_lt_of_le hb hs) (none_of h.fo hb e)).trans (h.fb b hb e), fun b o hs => R.fS b o (h.fS b o hs), fun b o hS hb => h.fS' b o (R.fS' b o hS (Nat.lt_of_lt_of_le hb hs)) hb, fun id hid hb => h.fo id (R.fo id hid (Nat.lt_of_lt_of_le hb hs)) hb⟩
  exact (R.hm g G hG).base hs

/-- A mark is taken off. -/
theorem Rel.unmark {B : Base} {X : Lay} {own : Nat → Prop} {st : St} {a : Act} (R : Rel B X own st a) {D : Nat} {ds ds' : List Deferred} (h : X.w.heap[D]? = some (.deferred (some ds))) (hb : B.w.heap.size ≤ D) (hds : a.defers = ds') :
    Rel ⟨B.w, B.S, B.om, ds'⟩ { X with w := X.w.putObj D (.deferred none) } own st { a with defers := ds' } := by
  have hat : ∀ b o, ({ X with w := X.w.putObj D (.deferred none) } : Lay).at b o = X.at b o := fun b o => at_put (X := X) h (fun _ _ _ => by simp) (fun _ _ _ => by simp) b o
  have le : X.Le { X with w := X.w.putObj D (.deferred none) } := ⟨fun _ _ h => h, fun b o _ => hat b o, fun _ h => h, fun _ _ => .inl ⟨rfl, rfl, rfl⟩⟩
  have hcell : ∀ {b : Nat} {cur : Array Value} {ty : TypeId} {q : Nat × Nat}, X.w.heap[b]? = some (.cells cur ty q) → (X.w.putObj D (.deferred none)).heap[b]? = X.w.heap[b]? := fun hc =>
    World.putObj_heap_other fun e => by rw [e, h] at hc; cases hc
  refine ⟨R.tm, fun k g g' => (R.rp k g g').mono le, rfl, R.lv, fun g G hG => ?_, R.ij, R.dj, fun id cs hcs => ?_, fun b o hs => by show b < (X.w.putObj _ _).heap.size; rw [World.putObj_size]; exact R.sb b o hs, R.fn.putObj _ _, fun b hlt e => ?_, R.fS, R.fS', R.fo⟩
  · refine Home.base (B := B) ((R.hm g G hG).mono le rfl rfl rfl Iff.rfl (fun ho => ?_) fun o _ hs => hs) (Nat.le_refl _)
    rcases (R.hm g G hG).lay with ⟨_, _, _, _, ⟨cur, ty, c1, _⟩, _⟩ | ⟨c1, _⟩
    · exact hcell c1
    · exact absurd ho c1
  · have ht := R.ob id cs hcs
    obtain ⟨cur, ty, c1, _⟩ := ht.cells
    exact ht.mono le (hcell c1) ht.S
  · show (X.w.putObj _ _).heap[b]? = _
    have hlt' : b < B.w.heap.size := hlt
    rw [World.putObj_heap_other (by omega)]
    exact R.fb b hlt e

theorem marks_sound {cx : Cx} (C : COk P cx) (fn : Func) {w0 : World} {S0 : Nat → Nat → Prop} {om0 : Om} {Q : V → Om → Prop} : ∀ (ms : List Nat) (st : St) (X : Lay) (own : Nat → Prop) (a : Act) {ds : List Deferred},
    a.defers = ms.map (fun D => { target := .collected D, args := #[] }) → Rel ⟨w0, S0, om0, ds⟩ X own st a → ms.Nodup → (∀ D ∈ ms, w0.heap.size ≤ D ∧ st.om D = none ∧ X.w.heap[D]? = some (.deferred (some []))) → @results cx om0 st fn.results.toList ⟨Q⟩ →
    LeavesInM Fence.wide 0 P fn a.tmps (fun e w' => ∃ v' Y r om', e = Ending.returned v' ∧ Y.w = w' ∧ Q r om' ∧ Rep Y v' r ∧ r.clean = true ∧ Kept ⟨w0, S0, om0, []⟩ Y om') a.defers .returning X.w
  | [], st, X, own, a, ds, hd, R, _, _, hK => by
    rw [hd]
    obtain ⟨v, r, Y, om', h1, h2, h3, h4, h5, h6⟩ := results_sound C R hK
    exact ⟨v, h1, v, Y, r, om', rfl, h3, h2, h4, h5, ⟨h6.ob, h6.sb, h6.fn, h6.fb, h6.fS, h6.fS', h6.fo⟩⟩
  | D :: ms, st, X, own, a, ds, hd, R, hnd, hms, hK => by
    rw [hd]
    obtain ⟨q1, q2, q3⟩ := hms D (by simp)
    have hnd' := List.nodup_cons.1 hnd
    refine ⟨by simp, .inl ⟨D, _, rfl, run_takeDeferred q3, ?_⟩⟩
    have R1 := Rel.unmark (a := { a with defers := ms.map (fun D => { target := .collected D, args := #[] }) }) (ds' := ms.map (fun D => { target := .collected D, args := #[] })) (B := ⟨w0, S0, om0, ms.map (fun D => { target := .collected D, args := #[] })⟩)
      ⟨R.tm, R.rp, rfl, R.lv, fun g G hG => (R.hm g G hG).base (Nat.le_refl _), R.ij, R.dj, R.ob, R.sb, R.fn, R.fb, R.fS, R.fS', R.fo⟩ q3 q1 rfl
    refine marks_sound C fn ms st _ own { a with defers := ms.map (fun D => { target := .collected D, args := #[] }) } rfl R1 hnd'.2 (fun E hE => ?_) hK
    obtain ⟨p1, p2, p3⟩ := hms E (by simp [hE])
    refine ⟨p1, p2, ?_⟩
    show (X.w.putObj D _).heap[E]? = _
    rw [World.putObj_heap_other fun e => hnd'.1 (by rw [← e]; exact hE)]
    exact p3

/-- What a body tells, its function tells. -/
theorem body_tells {cx : Cx} (C : COk P cx) (hx : P.follows .mixedOrders = true) {f : FuncId} {fn : Func} {code : Code} (hf : P.funcs[f]? = some fn) (hb : fn.body = some code) (hg : okCode cx code = true) {X : Lay} {om : Om} {args : List V} {vs : List Value}
    (Y : ∀ l c, cx.y = some (l, c) → YOk P ⟨X.w, X.S, om, []⟩ l c) (G : Good X om) (hr : RepL X vs args) (hcl : cleans args = true) {Q : V → Om → Prop} (hbody : body cx fn code args om Q) : Tells P f X om vs.toArray Q := by
  unfold body at hbody
  refine callsIn_wide.1 (callsIn_of_wp_marks (F := Fence.wide) (n := 0) hf hb trivial ?_)
  have R0 : Rel ⟨X.w, X.S, om, []⟩ ({ X with live := fun _ => False }) (fun _ => False) ⟨args ++ List.replicate (fn.ntmps - args.length) .u, [], om⟩
      { tmps := vs.toArray ++ Array.replicate (fn.ntmps - vs.toArray.size) undef, defers := [] } := by
    have hl := hr.len
    refine ⟨by simp [hl], fun k h h' => ?_, rfl, fun h => by simp [Mem.get], fun h H hH => by simp [Mem.get] at hH, fun h h' hl => by exact hl.elim, fun h hl => by exact hl.elim, fun id cs hcs => ?_, G.sb, .refl _, fun b _ _ => rfl, fun b o h => h, fun b o h _ => h, fun id h _ => h⟩
    · by_cases e : k < args.length
      · have e' : k < vs.length := by omega
        have := hr.get k e' e
        simp only [List.getElem_append_left e]
        rw [Array.getElem_append_left (by simpa using e')]
        simp only [List.getElem_toArray]
        exact Rep.move (X := X) (Y := { X with live := fun _ => False }) (fun _ _ h => h) (fun _ _ _ => rfl) this ((cleans_iff _).1 hcl _ (List.getElem_mem e))
      · simp only [List.getElem_append_right (Nat.le_of_not_lt e), List.getElem_replicate]
        exact .u _
    · have ht := G.ob id cs hcs
      obtain ⟨cur, ty, c1, c2, c3, c4⟩ := ht.cells
      exact ⟨ht.cl, ⟨cur, ty, c1, c2, c3, fun k hk hk' => ⟨Rep.move (X := X) (Y := { X with live := fun _ => False }) (fun _ _ h => h) (fun _ _ _ => rfl) (c4 k hk hk').1 ((cleans_iff _).1 ht.cl _ (List.getElem_mem hk)), (c4 k hk hk').2⟩⟩, ht.S⟩
  refine wpIn_mono (wpc_sound C hx code hg Fence.wide 0 (.inl rfl) (.inl rfl) _ Y _ _ ({ X with live := fun _ => False }) _ _ hbody R0) ?_
  have fin : ∀ a w, AfterX ⟨X.w, X.S, om, []⟩ (fun st => @results cx om st fn.results.toList ⟨Q⟩) a w →
      LeavesInM Fence.wide 0 P fn a.tmps (fun e w' => ∃ v' Y r om', e = Ending.returned v' ∧ Y.w = w' ∧ Q r om' ∧ Rep Y v' r ∧ r.clean = true ∧ Kept ⟨X.w, X.S, om, []⟩ Y om') a.defers .returning w := by
    rintro a w ⟨B', st, X', own, hE, hK, rfl, R⟩
    obtain ⟨ms, hds, hnd, hms⟩ := hE.mks
    rw [List.append_nil] at hds
    have R1 := R.rebase hE
    refine marks_sound C fn ms st X' own a ?_ R1 hnd (fun D hD => ?_) hK
    · rw [R.df, hds]
    · obtain ⟨q1, q2, q3, q4⟩ := hms D hD
      refine ⟨q1, none_of (fun id hid hb => R.fo id hid hb) q2 q3, (R.fb D q2 q3).trans q4⟩
  rintro e a w hq
  cases e with
  | normal => exact fin a w hq
  | exit id =>
    obtain ⟨_, _, _, _, _, hK, _⟩ := hq
    exact hK.elim
  | goto l => exact hq.elim
  | ret => exact fin a w hq
  | panic ch => exact hq.elim
  | outgrown => exact hq.elim

theorem run_of {f : FuncId} {fn : Func} {code : Code} (hf : P.funcs[f]? = some fn) (hb : fn.body = some code) (hn : (fn.name == "runtime.NumGoroutine") = false) (args : Array Value) (w : World) : (callFunc f args).run P w = .ok (.enter f args) w := by
  have hn' : ¬ fn.name = "runtime.NumGoroutine" := by simpa using hn
  simp [callFunc, hf, hn', hb]

theorem RepL.wfs {X : Lay} {vs : List Value} {args : List V} (hr : RepL X vs args) : wfs args := wfs_of_get fun k hk => (hr.get k (by rw [hr.len]; exact hk) hk).wf

/-- A function keeps a contract, if its body does; what it made for itself may be let go. -/
theorem ok_of_body {cx : Cx} (C : COk P cx) (hx : P.follows .mixedOrders = true) {f : FuncId} {fn : Func} {code : Code} (hf : P.funcs[f]? = some fn) (hb : fn.body = some code) (hn : (fn.name == "runtime.NumGoroutine") = false) (hg : okCode cx code = true) {c : Cn} (hm : Mono c)
    (h : ∀ args om (Q : V → Om → Prop), wfs args → @c args om ⟨Q⟩ → body cx fn code args om fun v om' => ∃ om'', OmKept om'' om' ∧ Q v om'') (hy : cx.y = none := by rfl) : Ok P f c where
  mono := hm
  run := run_of hf hb hn
  tells := fun _ om args _ Q G hr hcl hc => (body_tells C hx hf hb hg (fun l c e => by rw [hy] at e; cases e) G hr hcl (h args om Q hr.wfs hc)).less fun _ _ h => h

/-- A function keeps a contract, if its body does. -/
theorem ok_of_body1 {cx : Cx} (C : COk P cx) (hx : P.follows .mixedOrders = true) {f : FuncId} {fn : Func} {code : Code} (hf : P.funcs[f]? = some fn) (hb : fn.body = some code) (hn : (fn.name == "runtime.NumGoroutine") = false) (hg : okCode cx code = true) {c : Cn} (hm : Mono c)
    (h : ∀ args om (Q : V → Om → Prop), wfs args → @c args om ⟨Q⟩ → body cx fn code args om Q) (hy : cx.y = none := by rfl) : Ok P f c :=
  ok_of_body C hx hf hb hn hg hm (fun args om Q hw hc => h args om _ hw (hm args om Q _ (fun r om' hq => ⟨om', .refl _, hq⟩) hc)) hy
end
end Go.Proofs.Ytaojebdjkpdcdaa.I
