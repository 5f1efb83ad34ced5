/- Append. -/
import Derived.Test.YtaojebdjkpdcdaaCall
namespace Go.Proofs.Ytaojebdjkpdcdaa.I
open Go

section
variable {P : Program}

/-- A real slice whose elements can be read as a list. -/
def Src (X : Lay) (v : Value) (ys : List V) : Prop :=
  ∃ a c, v = .slice a ys.length c ∧ ys.length ≤ c ∧ (0 < ys.length → ∃ b o, a = some ⟨b, o, none⟩ ∧ Readable X b o (flat ys))

theorem flat_one {xs : List V} (h : uni 1 false xs = true) : flat xs = xs := by
  induction xs with
  | nil => rfl
  | cons x xs ih =>
    simp only [uni, List.all_cons, Bool.and_eq_true] at h
    have e := cells_one (fits_spec h.1).1
    simp only [flat, List.flatMap_cons, e] at ih ⊢
    rw [ih (by simpa [uni] using h.2)]; rfl

theorem rd_sound {B : Base} {X : Lay} {own : Nat → Prop} {st : St} {a : Act} (R : Rel B X own st a) {y : V} {K : List V → Prop} {v : Value} (h : @rd st.mem st.om y ⟨K⟩) (hy : Rep X v y) :
    ∃ ys, K ys ∧ Src X v ys := by
  unfold rd at h
  split at h <;> first | exact h.elim | skip
  · cases hy with
    | sl0 a c => exact ⟨_, h, a, c, rfl, Nat.zero_le _, fun h => by simp at h⟩
    | sl b o c es xs vals hc hcm hcl hu h1 h2 => exact ⟨_, h, _, c, rfl, hc, fun _ => ⟨b, o, rfl, Fixed.readable ⟨vals, h1, h2⟩⟩⟩
  · cases hy with
    | lit b o es xs vals hcm hcl hu h1 h2 => exact ⟨_, h, _, _, rfl, Nat.le_refl _, fun _ => ⟨b, o, rfl, Fixed.readable ⟨vals, h1, h2⟩⟩⟩
  · cases hy
    exact ⟨_, h, _, _, rfl, Nat.le_refl _, fun h => by simp at h⟩
  · rename_i hh n len
    obtain ⟨H, hH, hn, h⟩ := so_inv h
    have hm := R.hm _ _ hH
    cases hy with
    | row _ _ _ ad c hl hm' hk hc hcm hnn hv =>
      obtain ⟨hc', hv⟩ := hv (by rw [hm.L]; exact hn.symm)
      have hlen : (H.els.take len).length = len := by simp; omega
      refine ⟨_, h, ad, c, by rw [hlen], by omega, fun h0 => ⟨_, _, hv (by omega), ?_⟩⟩
      have e : flat (H.els.take len) = ((flat H.els).drop 0).take (flat (H.els.take len)).length := by
        rw [List.drop_zero]
        have : flat H.els = flat (H.els.take len) ++ flat (H.els.drop len) := by rw [← flat_append, List.take_append_drop]
        conv => rhs; rw [this]
        rw [List.take_left]
      rw [e]
      exact hm.readable.sub 0 _
  · rename_i id off len cap
    obtain ⟨cs, hcs, ⟨h1, h2⟩, h⟩ := so_inv h
    have ht := R.ob id cs hcs
    have hlen : ((cs.drop off).take len).length = len := by simp; omega
    cases hy with
    | ow _ _ _ _ ad q1 q2 q3 =>
      refine ⟨_, h, some ad, cap, by rw [hlen], by omega, fun h0 => ⟨id, off, by rw [q3 (by omega)], ?_⟩⟩
      rw [flat_one h2]
      have := ht.cells.readable.sub off len
      rwa [Nat.zero_add] at this

theorem Src.cells {X : Lay} {v : Value} {ys : List V} (h : Src X v ys) {es : Nat} (hu : ∀ y ∈ ys, y.cells.length = es) :
    ∃ news : List Value, news.length = ys.length * es ∧ RepL X news (flat ys) ∧ (∀ u ∈ news, u.oneCell' = true) ∧ ∀ w : World, w.heap = X.w.heap → (Builtin.firstCells es ys.length v).run P w = .ok news.toArray w := by
  obtain ⟨a, c, rfl, hc, h⟩ := h
  by_cases e : ys.length = 0
  · have : ys = [] := List.eq_nil_of_length_eq_zero e
    subst this
    refine ⟨[], by simp, .nil, by simp, fun w hw => ?_⟩
    cases a with
    | none => exact run_firstCells_none w es _ _ _
    | some ad => exact run_firstCells_some w es 0 ad 0 c [] (by simp) (by simp)
  · obtain ⟨b, o, rfl, vals, h1⟩ := h (by omega)
    have hl := flat_uniform hu
    refine ⟨(List.range (flat ys).length).map vals, by simp [hl], ?_, ?_, fun w hw => ?_⟩
    · exact .of_get (by simp) fun k k1 k2 => by simpa using (h1 k k2).2.1
    · intro u hu
      obtain ⟨k, hk, rfl⟩ := List.mem_map.1 hu
      exact (h1 k (by simpa using hk)).2.2
    · refine run_firstCells_some w es ys.length ⟨b, o, none⟩ _ c _ (by simp [hl]) fun j u hj => ?_
      obtain ⟨hj', hj⟩ := List.getElem?_eq_some_iff.1 hj
      simp only [List.length_map, List.length_range] at hj'
      simp only [List.getElem_map, List.getElem_range] at hj
      subst hj
      rw [add_off]
      have := (h1 j hj').1
      rw [← this]
      exact World.cell?_of_block (by rw [hw])

theorem run_append_fit {t u ty e eu : TypeId} {ei : TI} (ht : P.underlying t = some (.slice e)) (hu : P.underlying u = some (.slice eu)) (hT : TOk P e ei) {base : Option Addr} {sLen sCap : Nat} {xa : Option Addr} {n c : Nat} {w : World}
    {news : List Value} (hf : (Builtin.firstCells ei.size n (.slice xa n c)).run P w = .ok news.toArray w) (h : sLen + n ≤ sCap) {w' : World}
    (hs : ∀ a, base = some a → (storeCells (a.add (sLen * ei.size)) news).run P w = .ok () w') (hn : base = none → w' = w) :
    (Builtin.append_ #[t, u] ty #[.slice base sLen sCap, .slice xa n c]).run P w = .ok (.slice base (sLen + n) sCap) w' := by
  cases base with
  | none => obtain rfl := hn rfl
            simp [Builtin.append_, run_underlying ht, run_underlying hu, hT.size, Builtin.lenOf, h, hf]
  | some a => have := hs a rfl
              simp [Builtin.append_, run_underlying ht, run_underlying hu, hT.size, Builtin.lenOf, h, hf, this]

theorem run_append_new {t u ty e eu : TypeId} {ei : TI} (ht : P.underlying t = some (.slice e)) (hu : P.underlying u = some (.slice eu)) (hT : TOk P e ei) {base : Option Addr} {sLen sCap : Nat} {xa : Option Addr} {n c : Nat} {w : World}
    {olds news : List Value} (hf : ∀ w', w'.heap = w.heap → (Builtin.firstCells ei.size n (.slice xa n c)).run P w' = .ok news.toArray w')
    (ho : ∀ w', w'.heap = w.heap → (Builtin.firstCells ei.size sLen (.slice base sLen sCap)).run P w' = .ok olds.toArray w') (h : sCap < sLen + n) (hm : (sLen + n) * ei.bytes ≤ bmost) (hb : 1 ≤ ei.bytes ∧ ei.bytes ≤ 64) :
    ∃ (rest : Array Value) (cap : Nat) (wd : World), Still w wd ∧ rest.size = (cap - (sLen + n)) * ei.size ∧ sLen + n ≤ cap ∧ cap ≤ maxLen ∧
    (∀ X, RepL X rest.toList (flat (List.replicate (cap - (sLen + n)) ei.zero)) ∧ ∀ v ∈ rest, v.oneCell' = true) ∧
    (Builtin.append_ #[t, u] ty #[.slice base sLen sCap, .slice xa n c]).run P w = .ok (.slice (some ⟨w.heap.size, 0, none⟩) (sLen + n) cap) (wd.alloc (.cells (olds.toArray ++ news.toArray ++ rest) e)) := by
  obtain ⟨inf, z, d, g1, g2, g3, g4, g5, g6, g7, g8, g9⟩ := hT.ex
  have hle : sLen + n ≤ 140737488355328 := Nat.le_trans (Nat.le_mul_of_pos_right _ hb.1) hm
  have h63 : ¬ (9223372036854775807 < ((sLen : Int) + (n : Int))) := by omega
  have hn : ¬ (sLen + n ≤ sCap) := by omega
  have h48 : ¬ (281474976710656 < Builtin.nextslicecap (sLen + n) sCap * inf.bytes) := by
    have := growslice_fits (old := sCap) (need := sLen + n) (bytes := inf.bytes) h (by rw [g3]; exact hm)
    omega
  refine ⟨Builtin.zeroCells z.cells (grownCap w (sLen + n) sCap e - (sLen + n)), grownCap w (sLen + n) sCap e, w.drew, ⟨rfl, rfl, rfl, rfl⟩, by rw [size_zeroCells, g8], grownCap_ge _ _ _ _, grownCap_le_maxLen _ _ _ _ (by simp [maxLen]; omega), fun X => ?_, ?_⟩
  · obtain ⟨m1, m2⟩ := made_cells hT X g1 g4 (grownCap w (sLen + n) sCap e - (sLen + n)) (grownCap w (sLen + n) sCap e - (sLen + n)) (Nat.le_refl _)
    have hfl : (flat (List.replicate (grownCap w (sLen + n) sCap e - (sLen + n)) ei.zero)).length = (grownCap w (sLen + n) sCap e - (sLen + n)) * ei.size := by
      rw [flat_uniform (es := ei.size) fun x hx => by rw [List.eq_of_mem_replicate hx]; exact (fits_spec hT.ft).2, List.length_replicate]
    have ez : Builtin.zeroCells z.cells (grownCap w (sLen + n) sCap e - (sLen + n)) = madeCells z.cells ((grownCap w (sLen + n) sCap e - (sLen + n)) * ei.size) := by
      unfold Builtin.zeroCells madeCells; rw [g8]
    rw [ez]
    refine ⟨.of_get (by rw [hfl]; simp [m1]) fun k k1 k2 => by have := (m2 k k2 (by simpa using k1)).1; simpa using this, fun v hv => ?_⟩
    obtain ⟨k, hk, rfl⟩ := Array.mem_iff_getElem.1 hv
    exact (m2 k (by rw [hfl]; omega) hk).2
  have hf' := hf w.drew rfl
  have ho' := ho w.drew rfl
  rw [← g2] at hf' ho'
  simp [Builtin.append_, run_underlying ht, run_underlying hu, sizeOf, typeInfo, zeroValue, g1, g4, Builtin.lenOf, hn, h63, h48, Question.forced, hf', ho', newRow, grownCap]
  rw [← Array.append_assoc]; simp

/-- The world may have moved, if memory is as it was. -/
theorem Rel.drew {B : Base} {X : Lay} {own : Nat → Prop} {st : St} {a : Act} (R : Rel B X own st a) {w : World} (g : Still X.w w) : Rel B { X with w := w } own st a := by
  have h := g.heap
  have le : X.Le { X with w := w } := ⟨fun _ _ h => h, fun b o _ => World.cell?_of_block (by show w.heap[b]? = _; rw [h]), fun _ h => h, fun _ _ => .inl ⟨rfl, rfl, rfl⟩⟩
  have hb : ∀ b : Nat, w.heap[b]? = X.w.heap[b]? := fun b => by rw [h]
  exact ⟨R.tm, fun k g g' => (R.rp k g g').mono le, R.df, R.lv, fun g G hG => (R.hm g G hG).mono le rfl rfl rfl Iff.rfl (fun _ => hb _) (fun _ _ h => h), R.ij, R.dj,
    fun id cs hcs => (R.ob id cs hcs).mono le (hb _) (R.ob id cs hcs).S, fun b o hs => by show b < w.heap.size; rw [h]; exact R.sb b o hs, R.fn.still g,
    fun b hlt ho => (hb b).trans (R.fb b hlt ho), R.fS, R.fS', R.fo⟩

theorem Rel.mem_get {B : Base} {X : Lay} {own : Nat → Prop} {st : St} {a : Act} (R : Rel B X own st a) {m : Mem} (h : ∀ g, m.get g = st.mem.get g) : Rel B X own ⟨st.env, m, st.om⟩ a :=
  { R with lv := fun g => by rw [R.lv g]; simp only [h], hm := fun g H hH => R.hm g H (by rw [← h]; exact hH) }

/-- A view of stable cells, as a home. -/
def Lay.view (X : Lay) (d b o L : Nat) : Lay :=
  { X with live := fun h => h = d ∨ X.live h, j := fun h => if h = d then (b, o) else X.j h, cap := fun h => if h = d then L else X.cap h, L := fun h => if h = d then L else X.L h }

theorem Rel.view {B : Base} {X : Lay} {own : Nat → Prop} {st : St} {a : Act} (R : Rel B X own st a) {d : Nat} (hd : st.mem.get d = none) {es : Nat} {ag : Bool} {els : List V} {fz : Bool}
    (hu : uni es ag els = true) (hfz : fz = true ∨ els = []) {b o : Nat} (hf : Fixed X b o (flat els)) {v : Value} {x : V}
    (hv : Rep (X.view d b o els.length) v x) :
    Rel B (X.view d b o els.length) (fun h => h ≠ d ∧ own h) ⟨st.env.set d x, (d, ⟨es, ag, els, fz⟩) :: st.mem, st.om⟩ (a.put (some d) v) := by
  have hl : ¬ X.live d := fun h => by have := (R.lv d).1 h; rw [hd] at this; simp at this
  have le : X.Le (X.view d b o els.length) := ⟨fun _ _ h => h, fun _ _ _ => rfl, fun _ h => .inr h, fun h hh => .inl (by
    have : h ≠ d := fun e => hl (e ▸ hh)
    simp [Lay.view, this])⟩
  have R' : Rel B (X.view d b o els.length) (fun h => h ≠ d ∧ own h) ⟨st.env, (d, ⟨es, ag, els, fz⟩) :: st.mem, st.om⟩ a := by
    refine ⟨R.tm, fun k h h' => (R.rp k h h').mono le, R.df, ?_, ?_, ?_, ?_, ?_, R.sb, R.fn, R.fb, R.fS, R.fS', R.fo⟩
    · intro h
      simp only [mem_get_cons, Lay.view]
      by_cases e : h = d
      · simp [e]
      · simp [e, R.lv h]
    · intro h H hH
      simp only [mem_get_cons] at hH
      by_cases e : h = d
      · subst e
        simp only [if_true, Option.some.injEq] at hH
        subst hH
        exact ⟨by simp [Lay.view], hu, .inr ⟨by simp, by simp [Lay.view], hfz, by simpa [Lay.view] using hf.mono le⟩⟩
      · simp only [e, if_false] at hH
        exact (R.hm _ _ hH).mono le (by simp [Lay.view, e]) (by simp [Lay.view, e]) (by simp [Lay.view, e]) (by simp [e]) (fun _ => rfl) fun o _ h => h
    · intro h h' hl1 hl2 ho1 ho2 e
      simp only [Lay.view, ho1.1, ho2.1, if_false, false_or] at e hl1 hl2
      exact R.ij h h' hl1 hl2 ho1.2 ho2.2 e
    · intro h hl1 ho
      simp only [Lay.view, ho.1, if_false, false_or] at hl1 ⊢
      exact R.dj h hl1 ho.2
    · intro id cs hcs
      exact (R.ob id cs hcs).mono le rfl (R.ob id cs hcs).S
  exact R'.set (some d) hv

/-- A home gets more elements, in a new block. -/
theorem Rel.grow {B : Base} {X : Lay} {own : Nat → Prop} {st : St} {a : Act} (R : Rel B X own st a) {d : Nat} {H : Hm} (hH0 : st.mem.get d = some H) {es : Nat} {ag : Bool} {els : List V} {fz : Bool} (hlt : H.els.length < els.length)
    (hu : uni es ag els = true) (ty : TypeId) (cur : Array Value) (cap : Nat) (hc1 : els.length ≤ cap) (hc2 : cap ≤ maxLen) (hc3 : cur.size = cap * es)
    (hr : ∀ k (_ : k < (flat els).length) (h' : k < cur.size), Rep X cur[k] (flat els)[k] ∧ (cur[k]).oneCell' = true) :
    Rel B (X.newHome d (.cells cur ty) cap els.length) (fun h => h = d ∨ own h) ⟨st.env, st.mem.put d ⟨es, ag, els, fz⟩, st.om⟩ a := by
  have hlive : X.live d := (R.lv d).2 (by simp [hH0])
  have hL := (R.hm _ _ hH0).L
  have le : X.Le (X.newHome d (.cells cur ty) cap els.length) := ⟨fun _ _ h => h, fun b off h => alloc_at X.w _ b off (R.sb b off h), fun _ h => .inr h, fun h hl => by
    by_cases e : h = d
    · subst e; exact .inr (by simp [Lay.newHome]; omega)
    · exact .inl (by simp [Lay.newHome, e])⟩
  have hblk : ∀ h, X.live h → own h → (X.j h).1 < X.w.heap.size := fun h hh ho => by
    have hs := (R.lv h).1 hh
    obtain ⟨H, hH⟩ := Option.isSome_iff_exists.1 hs
    rcases (R.hm _ _ hH).lay with ⟨_, _, _, _, ⟨cur', ty', h1, _⟩, _⟩ | ⟨h1, _⟩
    · exact (Array.getElem?_eq_some_iff.1 h1).1
    · exact absurd ho h1
  refine ⟨R.tm, fun k h h' => (R.rp k h h').mono le, R.df, ?_, ?_, ?_, ?_, ?_, ?_, ?_, ?_, R.fS, R.fS', R.fo⟩
  · intro h
    simp only [mem_get_put, Lay.newHome]
    by_cases e : h = d
    · simp [e]
    · simp [e, R.lv h]
  · intro h H hH
    simp only [mem_get_put] at hH
    by_cases e : h = d
    · subst e
      simp only [if_true, Option.some.injEq] at hH
      subst hH
      refine ⟨by simp [Lay.newHome], hu, .inl ⟨.inl rfl, by simp [Lay.newHome], by simpa [Lay.newHome] using hc1, by simpa [Lay.newHome] using hc2, ?_, by simpa [Lay.newHome] using R.fn.size, ?_⟩⟩
      · refine ⟨cur, ty, by simpa [Lay.newHome] using heap_alloc_new X.w (.cells cur ty), by simpa [Lay.newHome] using hc3, ?_, fun k hk hk' => ⟨((hr k hk hk').1).mono le, (hr k hk hk').2⟩⟩
        rw [flat_uniform (uni_len hu)]; simp only [Lay.newHome, if_true]; exact Nat.mul_le_mul_right _ hc1
      · intro o ho
        simp only [Lay.newHome, if_true] at ho
        exact absurd (R.sb _ _ ho) (by omega)
    · simp only [e, if_false] at hH
      have hlv : X.live h := (R.lv h).2 (by simp [hH])
      refine (R.hm _ _ hH).mono le (by simp [Lay.newHome, e]) (by simp [Lay.newHome, e]) (by simp [Lay.newHome, e]) (by simp [e]) (fun ho => ?_) fun o _ h => h
      have := hblk h hlv ho
      exact heap_alloc_old X.w _ _ this
  · intro h h' hl1 hl2 ho1 ho2 e
    simp only [Lay.newHome] at hl1 hl2 e
    by_cases e1 : h = d <;> by_cases e2 : h' = d
    · rw [e1, e2]
    · simp only [e1, e2, if_true, if_false, false_or] at e hl2 ho2
      have := hblk h' hl2 ho2; omega
    · simp only [e1, e2, if_true, if_false, false_or] at e hl1 ho1
      have := hblk h hl1 ho1; omega
    · simp only [e1, e2, if_false, false_or] at e hl1 hl2 ho1 ho2
      exact R.ij h h' hl1 hl2 ho1 ho2 e
  · intro h hl1 ho
    simp only [Lay.newHome] at hl1 ⊢
    by_cases e : h = d
    · simp only [e, if_true]
      cases hom : st.om X.w.heap.size with
      | none => rfl
      | some cs =>
        obtain ⟨cur', ty', h1, _⟩ := (R.ob _ _ hom).cells
        have := (Array.getElem?_eq_some_iff.1 h1).1
        omega
    · simp only [e, if_false, false_or] at hl1 ho ⊢
      exact R.dj h hl1 ho
  · intro id cs hcs
    have ht := R.ob id cs hcs
    obtain ⟨cur', ty', h1, _⟩ := ht.cells
    exact ht.mono le (heap_alloc_old X.w _ _ (Array.getElem?_eq_some_iff.1 h1).1) ht.S
  · intro b o h
    have := R.sb b o h
    simp only [Lay.newHome, World.alloc, Array.size_push]; omega
  · exact R.fn.alloc _
  · intro b hb ho
    have := R.fn.size
    simp only [Lay.newHome]
    rw [heap_alloc_old X.w _ _ (by omega)]
    exact R.fb b hb ho

/-- A home gets more elements, in its own block. -/
def Lay.push (X : Lay) (h L : Nat) (cs : Array Value) : Lay := { X with w := X.w.setRow (X.j h).1 cs, L := fun g => if g = h then L else X.L g }

theorem Rel.push {B : Base} {X : Lay} {own : Nat → Prop} {st : St} {a : Act} (R : Rel B X own st a) {h : Nat} {H : Hm} (hH : st.mem.get h = some H) (ho : own h) {els : List V} (hlt : H.els.length < els.length)
    (hu : uni H.es H.ag els = true) (hcap : els.length ≤ X.cap h) {cur cur' : Array Value} {ty : TypeId} (hb : X.w.heap[(X.j h).1]? = some (.cells cur ty (0, 0))) (hsz : cur'.size = cur.size)
    (hkeep : ∀ k (_ : k < (flat H.els).length), cur'[k]? = cur[k]?)
    (hr : ∀ k (_ : k < (flat els).length) (h' : k < cur'.size), Rep X cur'[k] (flat els)[k] ∧ (cur'[k]).oneCell' = true) :
    Rel B (X.push h els.length cur') own ⟨st.env, st.mem.put h ⟨H.es, H.ag, els, H.fz⟩, st.om⟩ a := by
  have hm := R.hm _ _ hH
  have hlive : X.live h := (R.lv h).2 (by simp [hH])
  obtain ⟨h2, h3, h4, h5, h6, h7⟩ : (X.j h).2 = 0 ∧ H.els.length ≤ X.cap h ∧ X.cap h ≤ maxLen ∧ Cells X (X.j h).1 (X.cap h * H.es) (flat H.els) ∧ B.w.heap.size ≤ (X.j h).1 ∧ (∀ o, X.S (X.j h).1 o → H.fz = true ∧ o < (flat H.els).length) := by
    rcases hm.lay with ⟨_, g⟩ | ⟨g, _⟩
    · exact g
    · exact absurd ho g
  have hnew := setRow_heap X.w _ cur cur' ty (0, 0) hb
  have le : X.Le (X.push h els.length cur') := ⟨fun _ _ h => h, fun b o hs => by
    by_cases e : b = (X.j h).1
    · subst e
      have := hkeep o (h7 o hs).2
      simp only [Lay.at, Lay.push, World.cell?, hnew, hb]
      simpa using this
    · exact World.cell?_of_block (setRow_other X.w _ b cur' e), fun _ h => h, fun g hg => by
    by_cases e : g = h
    · subst e; exact .inr (by simp [Lay.push]; rw [hm.L]; exact hlt)
    · exact .inl (by simp [Lay.push, e])⟩
  refine ⟨R.tm, fun k g g' => (R.rp k g g').mono le, R.df, ?_, ?_, R.ij, R.dj, ?_, ?_, ?_, ?_, R.fS, R.fS', R.fo⟩
  · intro g
    simp only [mem_get_put]
    by_cases e : g = h
    · subst e; simp [Lay.push, hlive]
    · simp [e, Lay.push, R.lv g]
  · intro g G hG
    simp only [mem_get_put] at hG
    by_cases e : g = h
    · subst e
      simp only [if_true, Option.some.injEq] at hG
      subst hG
      obtain ⟨cur0, ty0, q1, q2, q3, q4⟩ := h5
      rw [hb] at q1
      injection q1 with q1
      injection q1 with q1 q1' q1''
      subst q1
      have hfl := flat_uniform (uni_len hm.uni)
      have hfl' := flat_uniform (uni_len hu)
      refine ⟨by simp [Lay.push], hu, .inl ⟨ho, h2, hcap, h4, ⟨cur', ty, hnew, by rw [hsz, q2]; rfl, ?_, fun k hk hk' => ⟨((hr k hk hk').1).mono le, (hr k hk hk').2⟩⟩, h6, fun o hs => ⟨(h7 o hs).1, ?_⟩⟩⟩
      · rw [hfl']; exact Nat.mul_le_mul_right _ hcap
      · have := (h7 o hs).2
        rw [hfl] at this; rw [hfl']
        exact Nat.lt_of_lt_of_le this (Nat.mul_le_mul_right _ (Nat.le_of_lt hlt))
    · simp only [e, if_false] at hG
      have hl : X.live g := (R.lv g).2 (by simp [hG])
      refine (R.hm _ _ hG).mono le (by simp [Lay.push, e]) rfl rfl Iff.rfl (fun ho' => ?_) fun o _ hs => hs
      exact setRow_other X.w _ _ _ fun e' => e (R.ij g h hl hlive ho' ho e')
  · intro id cs hcs
    refine (R.ob id cs hcs).mono le (setRow_other X.w _ _ _ fun e => ?_) (R.ob id cs hcs).S
    have := R.dj h hlive ho
    rw [← e, hcs] at this; cases this
  · intro b o hs; show b < (X.w.setRow _ _).heap.size; rw [setRow_size]; exact R.sb b o hs
  · exact R.fn.setRow _ _
  · intro b hlt hom
    show (X.w.setRow _ _).heap[b]? = _
    rw [setRow_other X.w _ _ _ (by omega)]
    exact R.fb b hlt hom
end
end Go.Proofs.Ytaojebdjkpdcdaa.I
