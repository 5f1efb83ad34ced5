/- Values handed on: what is still being made is made fast. -/
import Derived.Test.YtaojebdjkpdcdaaStore
namespace Go.Proofs.Ytaojebdjkpdcdaa.I
open Go

section
variable {P : Program}

theorem Lay.Le.trans {X Y Z : Lay} (h : X.Le Y) (g : Y.Le Z) : X.Le Z where
  S := fun b o hs => g.S b o (h.S b o hs)
  w := fun b o hs => (g.w b o (h.S b o hs)).trans (h.w b o hs)
  live := fun k hk => g.live k (h.live k hk)
  hm := fun k hk => by
    rcases h.hm k hk with ⟨e1, e2, e3⟩ | e <;> rcases g.hm k (h.live k hk) with ⟨f1, f2, f3⟩ | f
    · exact .inl ⟨f1.trans e1, f2.trans e2, f3.trans e3⟩
    · exact .inr (by omega)
    · exact .inr (by omega)
    · exact .inr (by omega)

/-- The cells of a home are made fast. -/
def Lay.fast (X : Lay) (b n : Nat) : Lay := { X with S := fun c o => X.S c o ∨ (c = b ∧ o < n) }

theorem Lay.fast_le (X : Lay) (b n : Nat) : X.Le (X.fast b n) := ⟨fun _ _ h => .inl h, fun _ _ _ => rfl, fun _ h => h, fun _ _ => .inl ⟨rfl, rfl, rfl⟩⟩

theorem Cells.fixed {X : Lay} {b n : Nat} {cs : List V} (h : Cells X b n cs) : Fixed (X.fast b cs.length) b 0 cs := by
  obtain ⟨cur, ty, h1, h2, h3, h4⟩ := h
  refine ⟨fun k => cur.getD k undef, fun k hk => ?_, fun k hk => ?_⟩
  · have hk' : k < cur.size := by omega
    have e : cur.getD k undef = cur[k] := by simp [Array.getD, hk']
    simp only [e]
    refine ⟨.inr ⟨rfl, by omega⟩, ?_, (h4 k hk hk').2⟩
    simp only [Lay.at, Lay.fast, Nat.zero_add]
    simp [World.cell?, h1, hk']
  · have hk' : k < cur.size := by omega
    have e : cur.getD k undef = cur[k] := by simp [Array.getD, hk']
    simp only [e]
    exact ((h4 k hk hk').1).mono (X.fast_le _ _)

theorem Rel.freeze {B : Base} {X : Lay} {own : Nat → Prop} {st : St} {a : Act} (R : Rel B X own st a) {h : Nat} {H : Hm} (hH : st.mem.get h = some H) :
    ∃ Y, X.Le Y ∧ Y.w = X.w ∧ Y.j = X.j ∧ Y.L = X.L ∧ Y.cap = X.cap ∧ Y.live = X.live ∧ Rel B Y own ⟨st.env, st.mem.put h ⟨H.es, H.ag, H.els, true⟩, st.om⟩ a ∧ Fixed Y (X.j h).1 (X.j h).2 (flat H.els) := by
  have hm := R.hm _ _ hH
  have hlive : X.live h := (R.lv h).2 (by simp [hH])
  have lv' : ∀ g, X.live g ↔ ((st.mem.put h ⟨H.es, H.ag, H.els, true⟩).get g).isSome := fun g => by
    simp only [mem_get_put]
    by_cases e : g = h
    · subst e; simp [hlive]
    · simp [e, R.lv g]
  rcases hm.lay with ⟨ho, q0, q1, q2, q3, q4, q5⟩ | ⟨ho, q1, q2, q3⟩
  · have le := X.fast_le (X.j h).1 (flat H.els).length
    have hblk : (X.j h).1 < X.w.heap.size := by
      obtain ⟨cur, ty, h1, _⟩ := q3
      exact (Array.getElem?_eq_some_iff.1 h1).1
    refine ⟨X.fast (X.j h).1 (flat H.els).length, le, rfl, rfl, rfl, rfl, rfl, ⟨R.tm, fun k g g' => (R.rp k g g').mono le, R.df, lv', ?_, R.ij, R.dj, ?_, ?_, R.fn, R.fb, fun b o hs => .inl (R.fS b o hs), ?_, R.fo⟩, ?_⟩
    · intro g G hG
      simp only [mem_get_put] at hG
      by_cases e : g = h
      · subst e
        simp only [if_true, Option.some.injEq] at hG
        subst hG
        refine ⟨hm.L, hm.uni, .inl ⟨ho, q0, q1, q2, q3.mono le rfl, q4, fun o hs => ?_⟩⟩
        rcases hs with hs | hs
        · exact ⟨rfl, (q5 o hs).2⟩
        · exact ⟨rfl, hs.2⟩
      · simp only [e, if_false] at hG
        have hl : X.live g := (R.lv g).2 (by simp [hG])
        refine (R.hm _ _ hG).mono le rfl rfl rfl Iff.rfl (fun _ => rfl) fun o ho' hs => ?_
        rcases hs with hs | hs
        · exact hs
        · exact absurd (R.ij g h hl hlive ho' ho hs.1) e
    · intro id cs hcs
      have ht := R.ob id cs hcs
      refine ht.mono le rfl fun o hs => ?_
      rcases hs with hs | hs
      · exact ht.S o hs
      · have := R.dj h hlive ho
        rw [← hs.1, hcs] at this; cases this
    · intro b o hs
      rcases hs with hs | hs
      · exact R.sb b o hs
      · rw [hs.1]; exact hblk
    · intro b o hs hb
      rcases hs with hs | hs
      · exact R.fS' b o hs hb
      · rw [hs.1] at hb; omega
    · rw [q0]; exact q3.fixed
  · refine ⟨X, .refl X, rfl, rfl, rfl, rfl, rfl, { R with lv := lv', hm := ?_ }, q3⟩
    intro g G hG
    simp only [mem_get_put] at hG
    by_cases e : g = h
    · subst e
      simp only [if_true, Option.some.injEq] at hG
      subst hG
      exact ⟨hm.L, hm.uni, .inr ⟨ho, q1, .inl rfl, q3⟩⟩
    · simp only [e, if_false] at hG
      exact R.hm _ _ hG

theorem give1_sound {B : Base} {X : Lay} {own : Nat → Prop} {st : St} {a : Act} (R : Rel B X own st a) {x : V} {K : St → V → Prop} {v : Value} (h : @give1 st x ⟨K⟩) (hx : Rep X v x) :
    ∃ st' Y y, K st' y ∧ X.Le Y ∧ Y.w = X.w ∧ Rel B Y own st' a ∧ Rep Y v y ∧ y.clean = true ∧ (∀ es ag, x.fits es ag = true → y.fits es ag = true) ∧ st'.env = st.env ∧ st'.om = st.om := by
  unfold give1 at h
  split at h
  · rename_i hh n len
    obtain ⟨H, hH, ⟨hn, hcl⟩, h⟩ := so_inv h
    obtain ⟨Y, le, e1, e2, e3, e4, e5, R', hf⟩ := R.freeze hH
    have hm := R.hm _ _ hH
    cases hx with
    | row _ _ _ ad c hl hm' hk hc hcm hnn hv =>
      refine ⟨_, Y, _, h, le, e1, R', ?_, rfl, fun _ _ h => h, rfl, rfl⟩
      obtain ⟨hc', hv⟩ := hv (by rw [hm.L]; exact hn.symm)
      by_cases e : len = 0
      · subst e; simp only [List.take_zero]; exact .sl0 _ _
      · have := hv (by omega)
        subst this
        have hlen : (H.els.take len).length = len := by simp; omega
        have := (hf.take len).sub 0 (flat (H.els.take len)).length
        rw [List.drop_zero, List.take_length, Nat.add_zero] at this
        have := Rep.sl_fixed (c := c) (xs := H.els.take len) (by omega) hcm (cleans_take _ hcl) (fun x hx => uni_len hm.uni x (List.mem_of_mem_take hx)) this
        rwa [hlen] at this
  · cases hx
    exact ⟨_, X, _, h, .refl X, rfl, R, .sl0 _ _, rfl, fun _ _ h => h, rfl, rfl⟩
  · cases hx with
    | lit b o es _ vals hcm hcl hu h1 h2 => exact ⟨_, X, _, h, .refl X, rfl, R, .sl b o _ es _ vals (Nat.le_refl _) hcm hcl hu h1 h2, rfl, fun _ _ h => h, rfl, rfl⟩
  · exact ⟨_, X, _, h.2, .refl X, rfl, R, hx, h.1, fun _ _ h => h, rfl, rfl⟩

theorem gives1_sound {B : Base} {own : Nat → Prop} {a : Act} : ∀ {xs : List V} {vs : List Value} {X : Lay} {st : St} {K : St → List V → Prop}, Rel B X own st a → @gives1 st xs ⟨K⟩ → RepL X vs xs →
    ∃ st' Y ys, K st' ys ∧ X.Le Y ∧ Y.w = X.w ∧ Rel B Y own st' a ∧ RepL Y vs ys ∧ cleans ys = true ∧ st'.env = st.env ∧ st'.om = st.om
  | [], vs, X, st, K, R, h, hr => ⟨st, X, [], h, .refl X, rfl, R, hr, rfl, rfl, rfl⟩
  | x :: xs, vs, X, st, K, R, h, hr => by
    cases hr with
    | cons hx hr =>
      simp only [gives1] at h
      obtain ⟨st1, Y, y, h, le, ew, R1, hy, hc, _, e1, e2⟩ := give1_sound R h hx
      obtain ⟨st2, Z, ys, h, le2, ew2, R2, hys, hcs, e3, e4⟩ := gives1_sound R1 h (hr.mono le)
      refine ⟨st2, Z, y :: ys, h, le.trans le2, ew2.trans ew, R2, .cons (hy.mono le2) hys, by simp [cleans, hc, hcs], e3.trans e1, e4.trans e2⟩

theorem give_sound {B : Base} {X : Lay} {own : Nat → Prop} {st : St} {a : Act} (R : Rel B X own st a) {x : V} {K : St → V → Prop} {v : Value} (h : @give st x ⟨K⟩) (hx : Rep X v x) :
    ∃ st' Y y, K st' y ∧ X.Le Y ∧ Y.w = X.w ∧ Rel B Y own st' a ∧ Rep Y v y ∧ y.clean = true ∧ (∀ es ag, x.fits es ag = true → y.fits es ag = true) ∧ st'.env = st.env ∧ st'.om = st.om := by
  unfold give at h
  split at h
  · rename_i cs
    cases hx with
    | agg vs _ hz h1 h2 =>
      have hr : RepL X vs.toList cs := .of_get (by simpa using hz) fun k k1 k2 => by simpa using h2 k k2 (by simpa using k1)
      obtain ⟨st', Y, ys, h, le, ew, R', hys, hcl, e1, e2⟩ := gives1_sound R h hr
      have hl := hys.len
      have hl0 := hr.len
      refine ⟨st', Y, _, h, le, ew, R', .agg vs ys (by simpa using hl) h1 fun k k1 k2 => by have := hys.get k (by simpa using k2) k1; rwa [Array.getElem_toList] at this, by simpa [V.clean] using hcl, fun es ag hf => ?_, e1, e2⟩
      simp only [V.fits, Bool.and_eq_true, beq_iff_eq] at hf ⊢
      exact ⟨hf.1, by omega⟩
  · exact give1_sound R h hx

theorem gives_sound {B : Base} {own : Nat → Prop} {a : Act} : ∀ {xs : List V} {vs : List Value} {X : Lay} {st : St} {K : St → List V → Prop}, Rel B X own st a → @gives st xs ⟨K⟩ → RepL X vs xs →
    ∃ st' Y ys, K st' ys ∧ X.Le Y ∧ Y.w = X.w ∧ Rel B Y own st' a ∧ RepL Y vs ys ∧ cleans ys = true ∧ st'.env = st.env ∧ st'.om = st.om
  | [], vs, X, st, K, R, h, hr => ⟨st, X, [], h, .refl X, rfl, R, hr, rfl, rfl, rfl⟩
  | x :: xs, vs, X, st, K, R, h, hr => by
    cases hr with
    | cons hx hr =>
      simp only [gives] at h
      obtain ⟨st1, Y, y, h, le, ew, R1, hy, hc, _, e1, e2⟩ := give_sound R h hx
      obtain ⟨st2, Z, ys, h, le2, ew2, R2, hys, hcs, e3, e4⟩ := gives_sound R1 h (hr.mono le)
      refine ⟨st2, Z, y :: ys, h, le.trans le2, ew2.trans ew, R2, .cons (hy.mono le2) hys, by simp [cleans, hc, hcs], e3.trans e1, e4.trans e2⟩

/-! ### new blocks -/

/-- A new block, never to be written. -/
def Lay.block (X : Lay) (o : Obj) (n : Nat) : Lay := { X with w := X.w.alloc o, S := fun b k => X.S b k ∨ (b = X.w.heap.size ∧ k < n) }

theorem Rel.block {B : Base} {X : Lay} {own : Nat → Prop} {st : St} {a : Act} (R : Rel B X own st a) (o : Obj) (n : Nat) : X.Le (X.block o n) ∧ Rel B (X.block o n) own st a := by
  have le : X.Le (X.block o n) := ⟨fun _ _ h => .inl h, fun b off h => alloc_at X.w o b off (R.sb b off h), fun _ h => h, fun _ _ => .inl ⟨rfl, rfl, rfl⟩⟩
  refine ⟨le, R.tm, fun k h h' => (R.rp k h h').mono le, R.df, R.lv, ?_, R.ij, R.dj, ?_, ?_, ?_, ?_, fun b k h => .inl (R.fS b k h), ?_, R.fo⟩
  · intro g G hG
    have hl : X.live g := (R.lv g).2 (by simp [hG])
    have hblk : own g → (X.j g).1 < X.w.heap.size := fun ho => by
      rcases (R.hm _ _ hG).lay with ⟨_, _, _, _, ⟨cur', ty', h1, _⟩, _⟩ | ⟨h1, _⟩
      · exact (Array.getElem?_eq_some_iff.1 h1).1
      · exact absurd ho h1
    refine (R.hm _ _ hG).mono le rfl rfl rfl Iff.rfl (fun ho => heap_alloc_old X.w _ _ (hblk ho)) fun k ho hs => ?_
    rcases hs with hs | hs
    · exact hs
    · have := hblk ho; omega
  · intro id cs hcs
    have ht := R.ob id cs hcs
    obtain ⟨cur', ty', h1, _⟩ := ht.cells
    have hid := (Array.getElem?_eq_some_iff.1 h1).1
    refine ht.mono le (heap_alloc_old X.w _ _ hid) fun k hs => ?_
    rcases hs with hs | hs
    · exact ht.S k hs
    · omega
  · intro b k hs
    show b < (X.w.heap.push o).size
    rw [Array.size_push]
    rcases hs with hs | hs
    · have := R.sb b k hs; omega
    · omega
  · exact R.fn.alloc o
  · intro b hb ho
    have := R.fn.size
    exact (heap_alloc_old X.w o b (by omega)).trans (R.fb b hb ho)
  · intro b k hs hb
    rcases hs with hs | hs
    · exact R.fS' b k hs hb
    · have := R.fn.size; omega

/-- A new object. -/
theorem Rel.thing {B : Base} {X : Lay} {own : Nat → Prop} {st : St} {a : Act} (R : Rel B X own st a) {cs : List V} (vs : Array Value) (ty : TypeId) (hcl : cleans cs = true) (hr : RepL X vs.toList cs) (h1 : ∀ v ∈ vs, v.oneCell' = true) :
    ∃ Y, Y.w = X.w.alloc (.cells vs ty) ∧ st.om X.w.heap.size = none ∧ Rel B Y own ⟨st.env, st.mem, st.om.put X.w.heap.size cs⟩ a := by
  obtain ⟨le, R'⟩ := R.block (.cells vs ty) 0
  have hnone : st.om X.w.heap.size = none := by
    cases e : st.om X.w.heap.size with
    | none => rfl
    | some cs =>
      obtain ⟨cur, ty, c1, _⟩ := (R.ob _ _ e).cells
      have := (Array.getElem?_eq_some_iff.1 c1).1
      omega
  refine ⟨X.block (.cells vs ty) 0, rfl, hnone, R'.tm, R'.rp, R'.df, R'.lv, R'.hm, R'.ij, fun g hl ho => ?_, fun id ds hds => ?_, R'.sb, R'.fn, R'.fb, R'.fS, R'.fS', fun id hid hlt => ?_⟩
  · simp only [Om.put]
    split
    · rename_i e
      obtain ⟨H, hH⟩ := Option.isSome_iff_exists.1 ((R.lv g).1 hl)
      rcases (R.hm _ _ hH).lay with ⟨_, _, _, _, ⟨cur', ty', c1, _⟩, _⟩ | ⟨c1, _⟩
      · have := (Array.getElem?_eq_some_iff.1 c1).1
        have e' : (X.j g).1 = X.w.heap.size := e
        omega
      · exact absurd ho c1
    · exact R.dj g hl ho
  · simp only [Om.put] at hds
    split at hds
    · rename_i e; subst e
      injection hds with hds; subst hds
      have hl := hr.len
      refine ⟨hcl, ⟨vs, ty, heap_alloc_new X.w _, by simpa using hl, Nat.le_refl _, fun k hk hk' => ⟨?_, h1 _ (Array.getElem_mem hk')⟩⟩, fun o hs => ?_⟩
      · have := hr.get k (by simpa using hk') hk
        exact Rep.mono le (by simpa using this)
      · rcases hs with hs | hs
        · have := R.sb _ _ hs; omega
        · omega
    · exact R'.ob id ds hds
  · simp only [Om.put] at hid
    split at hid
    · rename_i e; subst e
      have := R.fn.size; omega
    · exact R.fo id hid hlt

theorem thing_sound {B : Base} {X : Lay} {own : Nat → Prop} {st : St} {a : Act} (R : Rel B X own st a) {dst : Option Tmp} {x : V} {K : St → Prop} {v : Value} {es : Nat} {ag : Bool} (ty : TypeId) (h : @thing st dst x ⟨K⟩) (hx : Rep X v x) (hf : x.fits es ag = true) :
    ∃ st' Y, K st' ∧ Y.w = X.w.alloc (.cells v.cells ty) ∧ Rel B Y own st' (a.put dst (.pointer (some ⟨X.w.heap.size, 0, none⟩))) := by
  unfold thing at h
  obtain ⟨st1, Y, y, h, le, ew, R1, hy, hc, hfy, e1, e2⟩ := give_sound R h hx
  obtain ⟨d, rfl, h⟩ := so_inv h
  obtain ⟨h1, h2⟩ := rep_cells hy (hfy _ _ hf)
  obtain ⟨Z, ez, hn, R2⟩ := R1.thing v.cells ty (clean_cells hc) h1 h2
  rw [ew] at ez hn R2
  have := h _ hn
  refine ⟨_, Z, this, ez, ?_⟩
  exact R2.set (some d) (.obj _ _)
end
end Go.Proofs.Ytaojebdjkpdcdaa.I
