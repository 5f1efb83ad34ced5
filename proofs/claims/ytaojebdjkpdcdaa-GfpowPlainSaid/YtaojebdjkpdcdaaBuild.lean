/- Structs and arrays that are put together; memory that is made; stores. -/
import Derived.Test.YtaojebdjkpdcdaaFill
namespace Go.Proofs.Ytaojebdjkpdcdaa.I
open Go

section
variable {P : Program}

theorem run_mapM_pure {α β : Type} (f : α → Sem β) (g : α → β) (w : World) : ∀ (l : List α), (∀ x ∈ l, (f x).run P w = .ok (g x) w) → (l.mapM f).run P w = .ok (l.map g) w
  | [], _ => by simp
  | x :: l, h => by
    rw [List.mapM_cons]
    simp [h x (by simp), run_mapM_pure f g w l fun y hy => h y (by simp [hy])]

theorem run_amapM_pure {α β : Type} (f : α → Sem β) (g : α → β) (w : World) (l : Array α) (h : ∀ x ∈ l, (f x).run P w = .ok (g x) w) : (l.mapM f).run P w = .ok (l.map g) w := by
  rw [Array.mapM_eq_mapM_toList, ← bind_pure_comp]
  have := run_mapM_pure (P := P) f g w l.toList fun x hx => h x (Array.mem_toList_iff.1 hx)
  simp [this, Result.andThen_ok]
  apply Array.ext'; simp

/-- Parts, real and ideal: the same places, one by one. -/
inductive RepP (X : Lay) : List (Nat × Value) → List (Nat × V) → Prop
  | nil : RepP X [] []
  | cons {j : Nat} {v : Value} {x : V} {vs : List (Nat × Value)} {xs : List (Nat × V)} : Rep X v x → RepP X vs xs → RepP X ((j, v) :: vs) ((j, x) :: xs)

theorem placeS_sound {cx : Cx} (C : COk P cx) {X : Lay} {F : Array Field} {zs : List V} {K : List (Nat × V) → Prop} :
    ∀ {parts : List (Nat × Value)} {xs : List (Nat × V)}, RepP X parts xs → @placeS cx (F.toList.map fun f => (f.offset, f.type)) zs xs ⟨K⟩ →
    ∃ ps, K ps ∧ parts.length = ps.length ∧ ∀ k (h1 : k < parts.length) (h2 : k < ps.length), ∃ n ag, (F.map fun f => (f.offset, P.cellsOf f.type))[parts[k].1]? = some (ps[k].1, n) ∧ ps[k].2.fits n ag = true ∧ Rep X parts[k].2 ps[k].2 ∧ ps[k].1 + n ≤ zs.length := by
  intro parts xs h
  induction h generalizing K with
  | nil => exact fun h => ⟨[], h, rfl, fun k h1 => by simp at h1⟩
  | @cons j v x vs xs hr _ ih =>
    intro h
    simp only [placeS] at h
    replace h := so_inv h; obtain ⟨p, hp, h⟩ := h
    replace h := ti_inv h; obtain ⟨fi, hfi, ⟨hf, hn⟩, h⟩ := h
    obtain ⟨ps, hK, hl, hps⟩ := ih h
    simp only [List.getElem?_map, Option.map_eq_some_iff] at hp
    obtain ⟨f, hf', rfl⟩ := hp
    refine ⟨_, hK, by simp [hl], fun k h1 h2 => ?_⟩
    cases k with
    | zero =>
      obtain ⟨inf, z, d, g1, g2, _⟩ := (C.T _ _ hfi).ex
      refine ⟨fi.size, fi.isAgg, ?_, hf, hr, (hasN_iff _ _ _).1 hn⟩
      have hf2 : F[j]? = some f := by simpa using hf'
      simp [hf2, Program.cellsOf, g1, g2]
    | succ k => exact hps k (by simpa using h1) (by simpa using h2)

theorem placeA_sound {X : Lay} {ei : TI} {zs : List V} {K : List (Nat × V) → Prop} :
    ∀ {parts : List (Nat × Value)} {xs : List (Nat × V)}, RepP X parts xs → @placeA ei zs xs ⟨K⟩ →
    ∃ ps, K ps ∧ parts.length = ps.length ∧ ∀ k (h1 : k < parts.length) (h2 : k < ps.length), ∃ n ag, some (parts[k].1 * ei.size, ei.size) = some (ps[k].1, n) ∧ ps[k].2.fits n ag = true ∧ Rep X parts[k].2 ps[k].2 ∧ ps[k].1 + n ≤ zs.length := by
  intro parts xs h
  induction h generalizing K with
  | nil => exact fun h => ⟨[], h, rfl, fun k h1 => by simp at h1⟩
  | @cons j v x vs xs hr _ ih =>
    intro h
    simp only [placeA] at h
    obtain ⟨⟨hf, hn⟩, h⟩ := h
    obtain ⟨ps, hK, hl, hps⟩ := ih h
    refine ⟨_, hK, by simp [hl], fun k h1 h2 => ?_⟩
    cases k with
    | zero => exact ⟨ei.size, ei.isAgg, rfl, hf, hr, (hasN_iff _ _ _).1 hn⟩
    | succ k => exact hps k (by simpa using h1) (by simpa using h2)

theorem zero_cells {t : TypeId} {i : TI} (hT : TOk P t i) (hag : i.isAgg = true) (X : Lay) : ∃ inf z, P.info? t = some inf ∧ inf.zero = some z ∧ RepL X z.cells.toList i.zero.cells ∧ (∀ u ∈ z.cells, u.oneCell' = true) := by
  obtain ⟨inf, z, d, h1, h2, h3, h4, h5, h6, h7, h8, h9⟩ := hT.ex
  refine ⟨inf, z, h1, h4, ?_, h9⟩
  have e : i.zero.fits i.size true = true := by
    have := hT.ft; rwa [hag] at this
  exact (rep_cells (h7 X) e).1

theorem build_sound {cx : Cx} (C : COk P cx) {X : Lay} {t : TypeId} {parts : Array (Nat × Value)} {xs : List (Nat × V)} {K : V → Prop} (hr : RepP X parts.toList xs) (h : @build cx t xs ⟨K⟩) :
    ∃ r u, K r ∧ Rep X u r ∧ (Instr.build t parts).run P X.w = .ok u X.w := by
  unfold build at h
  replace h := ti_inv h; obtain ⟨i, hi, h⟩ := h
  have hT := C.T _ _ hi
  split at h <;> first | exact h.elim | skip
  · rename_i fs hk
    have hag : i.isAgg = true := by simp [TI.isAgg, hk]
    obtain ⟨inf, z, h1, h4, hz, h9⟩ := zero_cells hT hag X
    obtain ⟨inf', z', d, g1, g2, g3, g4, g5, g6, _⟩ := hT.ex
    rw [hk] at g6
    obtain ⟨F, rfl, rfl, hF⟩ := g6
    obtain ⟨ps, hK, hl, hps⟩ := placeS_sound C hr h
    obtain ⟨cs', e1, e2, e3⟩ := fill_sound (X := X) (place := fun i => (F.map fun f => (f.offset, P.cellsOf f.type))[i]?) parts.toList ps z.cells i.zero.cells hl hps hz h9
    refine ⟨_, .agg cs', hK, .agg _ _ (by simpa using e2.len) e3 (fun k k1 k2 => by have := e2.get k (by simpa using k2) k1; rwa [Array.getElem_toList] at this), ?_⟩
    have em := run_amapM_pure (P := P) (fun f : Field => do pure (f.offset, ← sizeOf f.type)) (fun f => (f.offset, P.cellsOf f.type)) X.w F (fun f hf => by
      obtain ⟨inf, q1, _⟩ := hF f hf
      simp [run_sizeOf' q1, Program.cellsOf, q1])
    simp only [bind_pure_comp] at em
    simp only [Array.getElem?_map] at e1
    simp [Instr.build, run_zeroValue' h1 h4, run_underlying g5, em, e1]
  · rename_i n e hk
    replace h := ti_inv h; obtain ⟨ei, hei, h⟩ := h
    have he := C.T _ _ hei
    have hag : i.isAgg = true := by simp [TI.isAgg, hk]
    obtain ⟨inf, z, h1, h4, hz, h9⟩ := zero_cells hT hag X
    have hu := C.array hi hk
    obtain ⟨ps, hK, hl, hps⟩ := placeA_sound hr h
    obtain ⟨cs', e1, e2, e3⟩ := fill_sound (X := X) (place := fun i => some (i * ei.size, ei.size)) parts.toList ps z.cells i.zero.cells hl hps hz h9
    refine ⟨_, .agg cs', hK, .agg _ _ (by simpa using e2.len) e3 (fun k k1 k2 => by have := e2.get k (by simpa using k2) k1; rwa [Array.getElem_toList] at this), ?_⟩
    simp [Instr.build, run_zeroValue' h1 h4, run_underlying hu, he.size, e1]

/-! ### memory that is made -/

theorem alloc_at (w : World) (o : Obj) (b off : Nat) (h : b < w.heap.size) : (w.alloc o).cell? ⟨b, off, none⟩ = w.cell? ⟨b, off, none⟩ :=
  World.cell?_of_block (heap_alloc_old w o b h)

/-- A layout with a new home, in a new block. -/
def Lay.newHome (X : Lay) (d : Nat) (o : Obj) (cap L : Nat) : Lay :=
  { w := X.w.alloc o, S := X.S, live := fun h => h = d ∨ X.live h, j := fun h => if h = d then (X.w.heap.size, 0) else X.j h,
    cap := fun h => if h = d then cap else X.cap h, L := fun h => if h = d then L else X.L h }

theorem Lay.newHome_le {X : Lay} (sb : ∀ b o, X.S b o → b < X.w.heap.size) {d : Nat} (hd : ¬ X.live d) (o : Obj) (cap L : Nat) : X.Le (X.newHome d o cap L) where
  S := fun _ _ h => h
  w := fun b off h => alloc_at X.w o b off (sb b off h)
  live := fun _ h => .inr h
  hm := fun h hl => by
    have : h ≠ d := fun e => hd (e ▸ hl)
    simp [newHome, this]

theorem Home.mono {B : Base} {X Y : Lay} (le : X.Le Y) {own own' : Nat → Prop} {h : Nat} {H : Hm} (hm : Home B X own h H) (e1 : Y.L h = X.L h) (e2 : Y.j h = X.j h) (e3 : Y.cap h = X.cap h)
    (eo : own' h ↔ own h) (eb : own h → Y.w.heap[(X.j h).1]? = X.w.heap[(X.j h).1]?) (eS : ∀ o, own h → Y.S (X.j h).1 o → X.S (X.j h).1 o) : Home B Y own' h H where
  L := e1.trans hm.L
  uni := hm.uni
  lay := by
    rcases hm.lay with ⟨h1, h2, h3, h4, h5, h6, h7⟩ | ⟨h1, h2, h3, h4⟩
    · refine .inl ⟨eo.2 h1, by rw [e2]; exact h2, by rw [e3]; exact h3, by rw [e3]; exact h4, ?_, by rw [e2]; exact h6, ?_⟩
      · rw [e2, e3]; exact h5.mono le (eb h1)
      · rw [e2]; exact fun o ho => h7 o (eS o h1 ho)
    · refine .inr ⟨fun h => h1 (eo.1 h), by rw [e3]; exact h2, h3, ?_⟩
      rw [e2]; exact h4.mono le

theorem Thing.mono {X Y : Lay} (le : X.Le Y) {id : Nat} {cs : List V} (h : Thing X id cs) (eb : Y.w.heap[id]? = X.w.heap[id]?) (eS : ∀ o, ¬ Y.S id o) : Thing Y id cs :=
  ⟨h.cl, h.cells.mono le eb, eS⟩

theorem mem_get_cons (m : Mem) (d : Nat) (H : Hm) (h : Nat) : Mem.get ((d, H) :: m) h = if h = d then some H else Mem.get m h := by
  simp [Mem.get]

/-- A new home of the call's own, in a new block. -/
theorem Rel.newHome {B : Base} {X : Lay} {own : Nat → Prop} {st : St} {a : Act} (R : Rel B X own st a) {d : Nat} (hd : st.mem.get d = none) {es : Nat} {ag : Bool} {els : List V} {fz : Bool}
    (hu : uni es ag els = true) (ty : TypeId) (cur : Array Value) (cap : Nat) (hc1 : els.length ≤ cap) (hc2 : cap ≤ maxLen) (hc3 : cur.size = cap * es)
    (hr : ∀ k (_ : k < (flat els).length) (h' : k < cur.size), Rep X cur[k] (flat els)[k] ∧ (cur[k]).oneCell' = true) {v : Value} {x : V}
    (hv : Rep (X.newHome d (.cells cur ty) cap els.length) v x) :
    Rel B (X.newHome d (.cells cur ty) cap els.length) (fun h => h = d ∨ own h) ⟨st.env.set d x, (d, ⟨es, ag, els, fz⟩) :: st.mem, st.om⟩ (a.put (some d) v) := by
  have hl : ¬ X.live d := fun h => by have := (R.lv d).1 h; rw [hd] at this; simp at this
  have le := Lay.newHome_le (X := X) R.sb hl (.cells cur ty) cap els.length
  have hne : ∀ h, X.live h → h ≠ d := fun h hh e => hl (e ▸ hh)
  have hblk : ∀ h, X.live h → own h → (X.j h).1 < X.w.heap.size := fun h hh ho => by
    have hs := (R.lv h).1 hh
    obtain ⟨H, hH⟩ := Option.isSome_iff_exists.1 hs
    rcases (R.hm _ _ hH).lay with ⟨_, _, _, _, ⟨cur', ty', h1, _⟩, _⟩ | ⟨h1, _⟩
    · exact (Array.getElem?_eq_some_iff.1 h1).1
    · exact absurd ho h1
  have R' : Rel B (X.newHome d (.cells cur ty) cap els.length) (fun h => h = d ∨ own h) ⟨st.env, (d, ⟨es, ag, els, fz⟩) :: st.mem, st.om⟩ a := by
    refine ⟨R.tm, fun k h h' => (R.rp k h h').mono le, R.df, ?_, ?_, ?_, ?_, ?_, ?_, ?_, ?_, R.fS, R.fS', R.fo⟩
    · intro h
      simp only [mem_get_cons, Lay.newHome]
      by_cases e : h = d
      · simp [e]
      · simp [e, R.lv h]
    · intro h H hH
      simp only [mem_get_cons] at hH
      by_cases e : h = d
      · subst e
        simp only [if_true, Option.some.injEq] at hH
        subst hH
        refine ⟨by simp [Lay.newHome], hu, .inl ⟨.inl rfl, by simp [Lay.newHome], by simpa [Lay.newHome] using hc1, by simpa [Lay.newHome] using hc2, ?_, by simpa [Lay.newHome] using R.fn.size, ?_⟩⟩
        · refine ⟨cur, ty, by simpa [Lay.newHome] using heap_alloc_new X.w (.cells cur ty), by simpa [Lay.newHome] using hc3, ?_, fun k hk hk' => ⟨((hr k hk hk').1).mono le, (hr k hk hk').2⟩⟩
          rw [flat_uniform (uni_len hu)]; simp only [Lay.newHome, if_true]; exact Nat.mul_le_mul_right _ hc1
        · intro o ho
          simp only [Lay.newHome, if_true] at ho
          exact absurd (R.sb _ _ ho) (by omega)
      · simp only [e, if_false] at hH
        have hlv : X.live h := (R.lv h).2 (by simp [hH])
        refine (R.hm _ _ hH).mono le (by simp [Lay.newHome, e]) (by simp [Lay.newHome, e]) (by simp [Lay.newHome, e]) (by simp [e]) (fun ho => ?_) fun o _ h => h
        have := hblk h hlv ho
        exact heap_alloc_old X.w _ _ this
    · intro h h' hl1 hl2 ho1 ho2 e
      simp only [Lay.newHome] at hl1 hl2 e
      by_cases e1 : h = d <;> by_cases e2 : h' = d
      · rw [e1, e2]
      · simp only [e1, e2, if_true, if_false, false_or] at e hl2 ho2
        have := hblk h' hl2 ho2; omega
      · simp only [e1, e2, if_true, if_false, false_or] at e hl1 ho1
        have := hblk h hl1 ho1; omega
      · simp only [e1, e2, if_false, false_or] at e hl1 hl2 ho1 ho2
        exact R.ij h h' hl1 hl2 ho1 ho2 e
    · intro h hl1 ho
      simp only [Lay.newHome] at hl1 ⊢
      by_cases e : h = d
      · simp only [e, if_true]
        cases hom : st.om X.w.heap.size with
        | none => rfl
        | some cs =>
          obtain ⟨cur', ty', h1, _⟩ := (R.ob _ _ hom).cells
          have := (Array.getElem?_eq_some_iff.1 h1).1
          omega
      · simp only [e, if_false, false_or] at hl1 ho ⊢
        exact R.dj h hl1 ho
    · intro id cs hcs
      have ht := R.ob id cs hcs
      obtain ⟨cur', ty', h1, _⟩ := ht.cells
      exact ht.mono le (heap_alloc_old X.w _ _ (Array.getElem?_eq_some_iff.1 h1).1) ht.S
    · intro b o h
      have := R.sb b o h
      simp only [Lay.newHome, World.alloc, Array.size_push]; omega
    · exact R.fn.alloc _
    · intro b hb ho
      have := R.fn.size
      simp only [Lay.newHome]
      rw [heap_alloc_old X.w _ _ (by omega)]
      exact R.fb b hb ho
  exact R'.set (some d) hv
end
end Go.Proofs.Ytaojebdjkpdcdaa.I
