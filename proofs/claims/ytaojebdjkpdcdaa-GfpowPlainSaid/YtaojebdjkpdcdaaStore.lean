/- Stores. -/
import Derived.Test.YtaojebdjkpdcdaaBuild
namespace Go.Proofs.Ytaojebdjkpdcdaa.I
open Go

section
variable {P : Program}

theorem repL_of_cells {X : Lay} {cur : Array Value} {cs : List V} (hl : cs.length ≤ cur.size) (h : ∀ k (_ : k < cs.length) (h' : k < cur.size), Rep X cur[k] cs[k] ∧ (cur[k]).oneCell' = true) :
    RepL X (cur.toList.take cs.length) cs ∧ ∀ u ∈ cur.toList.take cs.length, u.oneCell' = true := by
  refine ⟨.of_get (by simp; omega) fun k h1 h2 => ?_, fun u hu => ?_⟩
  · have := (h k h2 (by omega)).1
    simpa using this
  · obtain ⟨k, hk, rfl⟩ := List.mem_iff_getElem.1 hu
    simp only [List.length_take, Array.length_toList] at hk
    have := (h k (by omega) (by omega)).2
    simpa using this

theorem cells_of_repL {X : Lay} {vs rest : List Value} {cs : List V} (h : RepL X vs cs) (h1 : ∀ u ∈ vs, u.oneCell' = true) (k : Nat) (hk : k < cs.length) (h' : k < (vs ++ rest).toArray.size) :
    Rep X ((vs ++ rest).toArray[k]) cs[k] ∧ ((vs ++ rest).toArray[k]).oneCell' = true := by
  have hv : k < vs.length := by rw [h.len]; exact hk
  have e : (vs ++ rest).toArray[k] = vs[k] := by simp [List.getElem_append_left hv]
  rw [e]
  exact ⟨h.get k hv hk, h1 _ (List.getElem_mem hv)⟩

/-- A block of cells, some of them set. -/
theorem set_cells {X : Lay} {cur : Array Value} {cs : List V} (hl : cs.length ≤ cur.size) (h : ∀ k (_ : k < cs.length) (h' : k < cur.size), Rep X cur[k] cs[k] ∧ (cur[k]).oneCell' = true)
    {ws : List Value} {ys : List V} (hw : RepL X ws ys) (hw1 : ∀ u ∈ ws, u.oneCell' = true) (off : Nat) (ho : off + ys.length ≤ cs.length) :
    ∃ cur' : Array Value, cur' = (cur.toList.take off ++ ws ++ cur.toList.drop (off + ws.length)).toArray ∧ cur'.size = cur.size ∧
      ∀ k (_ : k < (splice cs off ys).length) (h' : k < cur'.size), Rep X cur'[k] (splice cs off ys)[k] ∧ (cur'[k]).oneCell' = true := by
  obtain ⟨h1, h2⟩ := repL_of_cells hl h
  have hs := h1.splice hw off
  have hwl := hw.len
  refine ⟨_, rfl, by simp; omega, ?_⟩
  have e : cur.toList.take off ++ ws ++ cur.toList.drop (off + ws.length) =
      ((cur.toList.take cs.length).take off ++ ws ++ (cur.toList.take cs.length).drop (off + ws.length)) ++ cur.toList.drop cs.length := by
    rw [List.take_take, Nat.min_eq_left (by omega)]
    simp only [List.append_assoc]
    congr 2
    have : cur.toList = cur.toList.take cs.length ++ cur.toList.drop cs.length := (List.take_append_drop _ _).symm
    conv => lhs; rw [this]
    rw [List.drop_append_of_le_length (by simp; omega)]
  intro k hk h'
  simp only [e]
  refine cells_of_repL hs (fun u hu => ?_) k hk (by simpa [e] using h')
  simp only [List.mem_append] at hu
  rcases hu with (hu | hu) | hu
  · exact h2 _ (List.mem_of_mem_take hu)
  · exact hw1 _ hu
  · exact h2 _ (List.mem_of_mem_drop hu)

/-- Nothing that is stable lies in a block that is written. -/
theorem write_le {X : Lay} {g : Nat} {cs : Array Value} (hS : ∀ o, ¬ X.S g o) : X.Le { X with w := X.w.setRow g cs } where
  S := fun _ _ h => h
  w := fun b o h => by
    have : b ≠ g := fun e => hS o (e ▸ h)
    exact World.cell?_of_block (setRow_other X.w g b cs this)
  live := fun _ h => h
  hm := fun _ _ => .inl ⟨rfl, rfl, rfl⟩

theorem setRow_size (w : World) (g : Nat) (cs : Array Value) : (w.setRow g cs).heap.size = w.heap.size := by
  simp [World.setRow]

theorem mem_get_put (m : Mem) (d : Nat) (H : Hm) (h : Nat) : (m.put d H).get h = if h = d then some H else m.get h := by
  induction m with
  | nil => simp [Mem.put, Mem.get]
  | cons p m ih =>
    obtain ⟨k, G⟩ := p
    simp only [Mem.put]
    by_cases e : d = k
    · subst e
      simp only [if_true, Mem.get]
      by_cases e2 : h = d <;> simp [e2]
    · simp only [e, if_false, Mem.get, ih]
      by_cases e2 : h = k
      · subst e2
        have : ¬ h = d := fun x => e x.symm
        simp [this]
      · simp [e2]

theorem Grown.setRow {a b : World} (h : Grown a b) (g : Nat) (cs : Array Value) : Grown a (b.setRow g cs) := ⟨by rw [setRow_size]; exact h.size, h.os, h.tape, h.output⟩

/-- A home of the call's own is written. -/
theorem Rel.write {B : Base} {X : Lay} {own : Nat → Prop} {st : St} {a : Act} (R : Rel B X own st a) {h : Nat} {H : Hm} (hH : st.mem.get h = some H) (ho : own h) (hfz : H.fz = false)
    {H' : Hm} (e1 : H'.els.length = H.els.length) (e2 : H'.es = H.es) (hu : uni H'.es H'.ag H'.els = true) (cur cur' : Array Value) (ty : TypeId) (hb : X.w.heap[(X.j h).1]? = some (.cells cur ty (0, 0))) (hsz : cur'.size = cur.size)
    (hr : ∀ k (_ : k < (flat H'.els).length) (h' : k < cur'.size), Rep X cur'[k] (flat H'.els)[k] ∧ (cur'[k]).oneCell' = true) :
    Rel B { X with w := X.w.setRow (X.j h).1 cur' } own ⟨st.env, st.mem.put h H', st.om⟩ a := by
  have hm := R.hm _ _ hH
  have hlive : X.live h := (R.lv h).2 (by simp [hH])
  obtain ⟨h2, h3, h4, h5, h6, h7⟩ : (X.j h).2 = 0 ∧ H.els.length ≤ X.cap h ∧ X.cap h ≤ maxLen ∧ Cells X (X.j h).1 (X.cap h * H.es) (flat H.els) ∧ B.w.heap.size ≤ (X.j h).1 ∧ (∀ o, X.S (X.j h).1 o → H.fz = true ∧ o < (flat H.els).length) := by
    rcases hm.lay with ⟨_, g⟩ | ⟨g, _⟩
    · exact g
    · exact absurd ho g
  have hS : ∀ o, ¬ X.S (X.j h).1 o := fun o hs => by have := (h7 o hs).1; rw [hfz] at this; cases this
  have le := write_le (X := X) (g := (X.j h).1) (cs := cur') hS
  have hlen : (flat H'.els).length = (flat H.els).length := by
    rw [flat_uniform (uni_len hu), flat_uniform (uni_len hm.uni), e1, e2]
  refine ⟨R.tm, fun k g g' => (R.rp k g g').mono le, R.df, ?_, ?_, R.ij, R.dj, ?_, ?_, ?_, ?_, R.fS, R.fS', R.fo⟩
  · intro g
    simp only [mem_get_put]
    by_cases e : g = h
    · subst e; simp [hlive]
    · simp [e, R.lv g]
  · intro g G hG
    simp only [mem_get_put] at hG
    by_cases e : g = h
    · subst e
      simp only [if_true, Option.some.injEq] at hG
      subst hG
      obtain ⟨cur0, ty0, q1, q2, q3, q4⟩ := h5
      rw [hb] at q1
      injection q1 with q1
      injection q1 with q1 q1' q1''
      subst q1
      refine ⟨by rw [e1]; exact hm.L, hu, .inl ⟨ho, h2, by rw [e1]; exact h3, h4, ⟨cur', ty, setRow_heap X.w _ cur cur' ty (0, 0) hb, by rw [hsz, q2, e2], ?_, fun k hk hk' => ⟨((hr k hk hk').1).mono le, (hr k hk hk').2⟩⟩, h6, fun o hs => absurd hs (hS o)⟩⟩
      rw [hlen, e2]; exact q3
    · simp only [e, if_false] at hG
      have hl : X.live g := (R.lv g).2 (by simp [hG])
      refine (R.hm _ _ hG).mono le rfl rfl rfl Iff.rfl (fun ho' => ?_) fun o _ hs => hs
      exact setRow_other X.w _ _ _ fun e' => e (R.ij g h hl hlive ho' ho e')
  · intro id cs hcs
    refine (R.ob id cs hcs).mono le (setRow_other X.w _ _ _ fun e => ?_) (R.ob id cs hcs).S
    have := R.dj h hlive ho
    rw [← e, hcs] at this; cases this
  · intro b o hs; rw [setRow_size]; exact R.sb b o hs
  · exact R.fn.setRow _ _
  · intro b hlt hom
    rw [setRow_other X.w _ _ _ (by omega)]
    exact R.fb b hlt hom

/-- An object is written. -/
theorem Rel.writeObj {B : Base} {X : Lay} {own : Nat → Prop} {st : St} {a : Act} (R : Rel B X own st a) {id : Nat} {cs : List V} (hcs : st.om id = some cs)
    {cs' : List V} (e1 : cs'.length = cs.length) (hcl : cleans cs' = true) (cur cur' : Array Value) (ty : TypeId) (hb : X.w.heap[id]? = some (.cells cur ty (0, 0))) (hsz : cur'.size = cur.size)
    (hr : ∀ k (_ : k < cs'.length) (h' : k < cur'.size), Rep X cur'[k] cs'[k] ∧ (cur'[k]).oneCell' = true) :
    Rel B { X with w := X.w.setRow id cur' } own ⟨st.env, st.mem, st.om.put id cs'⟩ a := by
  have ht := R.ob id cs hcs
  have le := write_le (X := X) (g := id) (cs := cur') ht.S
  refine ⟨R.tm, fun k g g' => (R.rp k g g').mono le, R.df, R.lv, ?_, R.ij, ?_, ?_, ?_, ?_, ?_, R.fS, R.fS', ?_⟩
  · intro g G hG
    have hl : X.live g := (R.lv g).2 (by simp [hG])
    refine (R.hm _ _ hG).mono le rfl rfl rfl Iff.rfl (fun ho' => ?_) fun o _ hs => hs
    refine setRow_other X.w _ _ _ fun e => ?_
    have := R.dj g hl ho'
    rw [e, hcs] at this; cases this
  · intro g hl ho
    have := R.dj g hl ho
    simp only [Om.put]
    split
    · rename_i e; rw [e, hcs] at this; cases this
    · exact this
  · intro i ds hds
    simp only [Om.put] at hds
    split at hds
    · rename_i e; subst e
      injection hds with hds; subst hds
      obtain ⟨cur0, ty0, q1, q2, q3, q4⟩ := ht.cells
      rw [hb] at q1
      injection q1 with q1
      injection q1 with q1 q1' q1''
      subst q1
      exact ⟨hcl, ⟨cur', ty, setRow_heap X.w _ cur cur' ty (0, 0) hb, by omega, Nat.le_refl _, fun k hk hk' => ⟨((hr k hk hk').1).mono le, (hr k hk hk').2⟩⟩, ht.S⟩
    · rename_i e
      exact (R.ob i ds hds).mono le (setRow_other X.w _ _ _ e) (R.ob i ds hds).S
  · intro b o hs; rw [setRow_size]; exact R.sb b o hs
  · exact R.fn.setRow _ _
  · intro b hlt hom
    by_cases e : b = id
    · subst e
      exact absurd hom (R.fo b (by rw [hcs]; simp) hlt)
    · rw [setRow_other X.w _ _ _ e]
      exact R.fb b hlt hom
  · intro i hi hlt
    simp only [Om.put] at hi
    split at hi
    · rename_i e; subst e; exact R.fo i (by rw [hcs]; simp) hlt
    · exact R.fo i hi hlt
end
end Go.Proofs.Ytaojebdjkpdcdaa.I
