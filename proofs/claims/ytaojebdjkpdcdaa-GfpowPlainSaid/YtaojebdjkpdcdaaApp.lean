/- Append, whole. -/
import Derived.Test.YtaojebdjkpdcdaaAppend
namespace Go.Proofs.Ytaojebdjkpdcdaa.I
open Go

section
variable {P : Program}

theorem new_cells {X : Lay} {olds news : List Value} {rest : Array Value} {cs : List V} (h : RepL X (olds ++ news) cs) (h1 : ∀ u ∈ olds ++ news, u.oneCell' = true) :
    ∀ k (_ : k < cs.length) (h' : k < (olds.toArray ++ news.toArray ++ rest).size), Rep X (olds.toArray ++ news.toArray ++ rest)[k] cs[k] ∧ ((olds.toArray ++ news.toArray ++ rest)[k]).oneCell' = true := by
  intro k hk h'
  have e : olds.toArray ++ news.toArray ++ rest = ((olds ++ news) ++ rest.toList).toArray := by
    apply Array.ext'; simp
  simp only [e]
  exact cells_of_repL h h1 k hk (by have := h'; rw [e] at this; exact this)

/-- A new home, in a block that an append has made. -/
theorem Rel.appNew {B : Base} {X : Lay} {own : Nat → Prop} {st : St} {a : Act} (R : Rel B X own st a) {d : Nat} (hd : st.mem.get d = none) {ei : TI} {els : List V} {fz : Bool} {wd : World} (hw : Still X.w wd)
    (hu : uni ei.size ei.isAgg els = true) (e : TypeId) {olds news : List Value} {rest : Array Value} {cap : Nat} (h1 : RepL X (olds ++ news) (flat els)) (h2 : ∀ u ∈ olds ++ news, u.oneCell' = true)
    (hrest : rest.size = (cap - els.length) * ei.size) (hc : els.length ≤ cap) (hm : cap ≤ maxLen) :
    ∃ X' own', X'.w = wd.alloc (.cells (olds.toArray ++ news.toArray ++ rest) e) ∧
    Rel B X' own' ⟨st.env.set d (.row d els.length els.length), (d, ⟨ei.size, ei.isAgg, els, fz⟩) :: st.mem, st.om⟩ (a.put (some d) (.slice (some ⟨X.w.heap.size, 0, none⟩) els.length cap)) := by
  have R1 := R.drew hw
  refine ⟨_, _, ?_, R1.newHome (els := els) hd hu e (olds.toArray ++ news.toArray ++ rest) cap hc hm ?_ ?_ ?_⟩
  · rfl
  · have hl := h1.len
    rw [flat_uniform (uni_len hu), List.length_append] at hl
    simp only [Array.size_append, List.size_toArray, hrest]
    rw [hl, Nat.sub_mul]
    have := Nat.mul_le_mul_right ei.size hc
    omega
  · refine new_cells (h1.mono ?_) h2
    exact ⟨fun _ _ h => h, fun b o _ => World.cell?_of_block (by show wd.heap[b]? = _; rw [hw.heap]), fun _ h => h, fun _ _ => .inl ⟨rfl, rfl, rfl⟩⟩
  · refine .row _ _ _ _ _ (by simp [Lay.newHome]) (by simp [Lay.newHome]) (Nat.le_refl _) hc hm (fun e => by cases e) fun _ => ?_
    simp [Lay.newHome, hw.heap]

theorem clean_flat {xs : List V} (h : cleans xs = true) : cleans (flat xs) = true := (cleans_iff _).2 (cleans_flat h)
theorem clean_zero {t : TypeId} {ei : TI} (hT : TOk P t ei) (n : Nat) : cleans (flat (List.replicate n ei.zero)) = true :=
  clean_flat ((cleans_iff _).2 fun x hx => by rw [List.eq_of_mem_replicate hx]; exact hT.cl)
theorem cleans_append' {xs ys : List V} (h : cleans xs = true) (g : cleans ys = true) : cleans (xs ++ ys) = true := by
  rw [cleans_iff] at *
  intro x hx
  exact (List.mem_append.1 hx).elim (h x) (g x)

/-- A new row of its own, in a block that an append has made. -/
theorem Rel.appObj {B : Base} {X : Lay} {own : Nat → Prop} {st : St} {a : Act} (R : Rel B X own st a) {d : Nat} {wd : World} (hw : Still X.w wd) (e : TypeId) {olds news : List Value} {rest : Array Value} {cs zs : List V} {len cap : Nat}
    (hc1 : cleans cs = true) (hc2 : cleans zs = true) (h1 : RepL X (olds ++ news) cs) (h2 : ∀ u ∈ olds ++ news, u.oneCell' = true) (hz : ∀ X, RepL X rest.toList zs ∧ ∀ v ∈ rest, v.oneCell' = true) (hc : len ≤ cap) (hm : cap ≤ maxLen) :
    ∃ X', st.om X.w.heap.size = none ∧ X'.w = wd.alloc (.cells (olds.toArray ++ news.toArray ++ rest) e) ∧
    Rel B X' own ⟨st.env.set d (.ow X.w.heap.size 0 len cap), st.mem, st.om.put X.w.heap.size (cs ++ zs)⟩ (a.put (some d) (.slice (some ⟨X.w.heap.size, 0, none⟩) len cap)) := by
  have R1 := R.drew hw
  have le : X.Le { X with w := wd } := ⟨fun _ _ h => h, fun b o _ => World.cell?_of_block (by show wd.heap[b]? = _; rw [hw.heap]), fun _ h => h, fun _ _ => .inl ⟨rfl, rfl, rfl⟩⟩
  have eh : wd.heap.size = X.w.heap.size := by rw [hw.heap]
  obtain ⟨Y, ew, hn0, R'⟩ := R1.thing (olds.toArray ++ news.toArray ++ rest) e (cleans_append' hc1 hc2)
    (by
      have := (h1.mono le).append (hz { X with w := wd }).1
      simpa using this)
    (fun v hv => by
      simp only [Array.mem_append, List.mem_toArray] at hv
      rcases hv with (hv | hv) | hv
      · exact h2 _ (List.mem_append.2 (.inl hv))
      · exact h2 _ (List.mem_append.2 (.inr hv))
      · exact (hz X).2 _ hv)
  simp only [eh] at hn0 R'
  refine ⟨Y, hn0, ew, ?_⟩
  have := R'.set (some d) (.ow X.w.heap.size 0 len cap ⟨X.w.heap.size, 0, none⟩ hc hm fun _ => rfl)
  exact this

theorem append_sound {cx : Cx} (C : COk P cx) {B : Base} {X : Lay} {own : Nat → Prop} {st : St} {a : Act} (R : Rel B X own st a) {dst : Option Tmp} {t u ty eu : TypeId} (hu : P.underlying u = some (.slice eu)) {x y : V} {v v' : Value} {K : St → Prop}
    (h : @append cx st dst t x y ⟨K⟩) (hx : Rep X v x) (hy : Rep X v' y) :
    ∃ st' X' own' r, K st' ∧ (Builtin.append_ #[t, u] ty #[v, v']).run P X.w = .ok r X'.w ∧ Rel B X' own' st' (a.put dst r) := by
  unfold append at h
  replace h := ti_inv h; obtain ⟨i, hi, h⟩ := h
  split at h <;> first | exact h.elim | skip
  rename_i e hk
  replace h := ti_inv h; obtain ⟨ei, hei, h⟩ := h
  have ht := C.slice hi hk
  have hT := C.T _ _ hei
  have hrd := rd_sound R h hy
  clear h
  obtain ⟨ys, ⟨⟨huy, hby⟩, h⟩, hsrc⟩ := hrd
  obtain ⟨news, n1, n2, n3, n4⟩ := hsrc.cells (P := P) (uni_len huy)
  obtain ⟨xa, c, rfl, hyc, _⟩ := hsrc
  split at h <;> first | exact h.elim | skip
  · split at h
    · obtain ⟨h1, h⟩ := h
      cases hx
      by_cases e0 : ys.length = 0
      · have : ys = [] := List.eq_nil_of_length_eq_zero e0
        subst this
        have hrun := run_append_fit (ty := ty) ht hu hT (base := none) (sLen := 0) (sCap := 0) (n4 X.w rfl) (by simp) (w' := X.w) (by simp) (fun _ => rfl)
        exact ⟨_, X, own, _, h1 rfl, hrun, R.set dst .nils⟩
      · obtain ⟨⟨hcl, hm⟩, h0⟩ := h (by omega)
        replace h0 := so_inv h0; obtain ⟨d, rfl, h0⟩ := h0
        obtain ⟨rest, cap, wd, hw, hr1, hr2, hr3, hrz, hrun⟩ := run_append_new (ty := ty) (base := none) (sLen := 0) (sCap := 0) (olds := []) ht hu hT n4 (fun w' _ => run_firstCells_none w' _ _ _ _) (by omega) (by simpa using hm) hby
        rw [Nat.zero_add] at hr1 hr2 hrz hrun
        obtain ⟨X', hn0, hX', R'⟩ := R.appObj (d := d) hw e (olds := []) (news := news) (rest := rest) (cs := flat ys) (zs := flat (List.replicate (cap - ys.length) ei.zero)) (len := ys.length) (cap := cap) (clean_flat hcl) (clean_zero hT _) n2 n3 hrz hr2 hr3
        rw [← flat_append] at R'
        exact ⟨_, X', own, _, h0 _ hn0 cap hr2 hr3, by rw [hrun, hX'], R'⟩
    obtain ⟨hm, h⟩ := h
    obtain ⟨d, rfl, hd, h⟩ := home_inv h
    cases hx
    by_cases e0 : ys.length = 0
    · have : ys = [] := List.eq_nil_of_length_eq_zero e0
      subst this
      have hrun := run_append_fit (ty := ty) ht hu hT (base := none) (sLen := 0) (sCap := 0) (n4 X.w rfl) (by simp) (w' := X.w) (by simp) (fun _ => rfl)
      refine ⟨_, X.view d 0 0 ([] : List V).length, _, _, h, hrun, R.view (els := []) hd rfl (.inr rfl) (b := 0) (o := 0) ⟨fun _ => undef, by simp [flat], by simp [flat]⟩ ?_⟩
      exact .row _ _ _ _ _ (by simp [Lay.view]) (by simp [Lay.view]) (Nat.le_refl _) (Nat.le_refl _) (Nat.zero_le _) (fun _ => rfl) fun _ => by simp [Lay.view]
    · obtain ⟨rest, cap, wd, hw, hr1, hr2, hr3, hrz, hrun⟩ := run_append_new (ty := ty) (base := none) (sLen := 0) (sCap := 0) (olds := []) ht hu hT n4 (fun w' _ => run_firstCells_none w' _ _ _ _) (by omega) (by simpa using hm) hby
      rw [Nat.zero_add] at hr1 hr2 hrun
      obtain ⟨X', own', hX', R'⟩ := R.appNew hd hw huy e (olds := []) (news := news) (rest := rest) (cap := cap) (fz := false) n2 n3 hr1 hr2 hr3
      exact ⟨_, X', own', _, h, by rw [hrun, hX'], R'⟩
  · rename_i xs
    split at h
    · obtain ⟨hux, h1, h⟩ := h
      have hx0 := hx
      cases hx with
      | lit b o es _ vals hcm hcl hun h1' h2' =>
      by_cases e0 : ys.length = 0
      · have : ys = [] := List.eq_nil_of_length_eq_zero e0
        subst this
        have hn0 : news = [] := List.eq_nil_of_length_eq_zero (by simpa using n1)
        subst hn0
        have hrun := run_append_fit (ty := ty) ht hu hT (base := some ⟨b, o, none⟩) (sLen := xs.length) (sCap := xs.length) (n4 X.w rfl) (by simp) (w' := X.w) (fun a _ => by simp [storeCells]) (fun e => by cases e)
        exact ⟨_, X, own, _, h1 rfl, hrun, R.set dst hx0⟩
      · obtain ⟨⟨hcl', hm⟩, h0⟩ := h (by omega)
        replace h0 := so_inv h0; obtain ⟨d, rfl, h0⟩ := h0
        have hsx : Src X (.slice (some ⟨b, o, none⟩) xs.length xs.length) xs := ⟨_, _, rfl, Nat.le_refl _, fun _ => ⟨b, o, rfl, Fixed.readable ⟨vals, h1', h2'⟩⟩⟩
        obtain ⟨olds, o1, o2, o3, o4⟩ := hsx.cells (P := P) (uni_len hux)
        obtain ⟨rest, cap, wd, hw, hr1, hr2, hr3, hrz, hrun⟩ := run_append_new (ty := ty) (sLen := xs.length) (sCap := xs.length) ht hu hT n4 o4 (by omega) (by simpa using hm) hby
        rw [← List.length_append] at hr1 hr2 hrz hrun
        obtain ⟨X', hn0, hX', R'⟩ := R.appObj (d := d) hw e (olds := olds) (news := news) (rest := rest) (cs := flat (xs ++ ys)) (zs := flat (List.replicate (cap - (xs ++ ys).length) ei.zero)) (len := (xs ++ ys).length) (cap := cap) (clean_flat hcl') (clean_zero hT _) (by rw [flat_append]; exact o2.append n2)
          (fun u hu => (List.mem_append.1 hu).elim (o3 u) (n3 u)) hrz hr2 hr3
        rw [← flat_append] at R'
        exact ⟨_, X', own, _, h0 _ hn0 cap hr2 hr3, by rw [hrun, hX'], R'⟩
    obtain ⟨⟨hm, hux⟩, h⟩ := h
    obtain ⟨d, rfl, hd, h⟩ := home_inv h
    have huxy : uni ei.size ei.isAgg (xs ++ ys) = true := by simp [uni] at hux huy ⊢; exact ⟨hux, huy⟩
    cases hx with
    | lit b o es _ vals hcm hcl hun h1 h2 =>
    by_cases e0 : ys.length = 0
    · have : ys = [] := List.eq_nil_of_length_eq_zero e0
      subst this
      have hn0 : news = [] := List.eq_nil_of_length_eq_zero (by simpa using n1)
      subst hn0
      have hrun := run_append_fit (ty := ty) ht hu hT (base := some ⟨b, o, none⟩) (sLen := xs.length) (sCap := xs.length) (n4 X.w rfl) (by simp) (w' := X.w) (fun a _ => by simp [storeCells]) (fun e => by cases e)
      refine ⟨_, X.view d b o (xs ++ []).length, _, _, h, hrun, R.view (els := xs ++ []) hd huxy ?_ (b := b) (o := o) ⟨vals, by simpa using h1, by simpa using h2⟩ ?_⟩
      · cases xs <;> simp
      · simp only [List.append_nil, List.length_nil, Nat.add_zero]
        exact .row _ _ _ _ _ (by simp [Lay.view]) (by simp [Lay.view]) (Nat.le_refl _) (Nat.le_refl _) hcm (fun e => by cases e) fun _ => by simp [Lay.view]
    · have hsx : Src X (.slice (some ⟨b, o, none⟩) xs.length xs.length) xs := ⟨_, _, rfl, Nat.le_refl _, fun _ => ⟨b, o, rfl, Fixed.readable ⟨vals, h1, h2⟩⟩⟩
      obtain ⟨olds, o1, o2, o3, o4⟩ := hsx.cells (P := P) (uni_len hux)
      obtain ⟨rest, cap, wd, hw, hr1, hr2, hr3, hrz, hrun⟩ := run_append_new (ty := ty) (sLen := xs.length) (sCap := xs.length) ht hu hT n4 o4 (by omega) (by simpa using hm) hby
      rw [← List.length_append] at hr1 hr2 hrun
      obtain ⟨X', own', hX', R'⟩ := R.appNew hd hw huxy e (olds := olds) (news := news) (rest := rest) (cap := cap) (fz := !xs.isEmpty) (by rw [flat_append]; exact o2.append n2)
        (fun u hu => (List.mem_append.1 hu).elim (o3 u) (n3 u)) hr1 hr2 hr3
      exact ⟨_, X', own', _, h, by rw [hrun, hX'], R'⟩
  · rename_i hh n len
    obtain ⟨H, hH, ⟨g1, rfl, g2, g3, g4⟩, h⟩ := so_inv h
    have hm := R.hm _ _ hH
    subst g1
    have hux : uni ei.size ei.isAgg H.els = true := by rw [← g2, ← g3]; exact hm.uni
    have huxy : uni ei.size ei.isAgg (H.els ++ ys) = true := by simp [uni] at hux huy ⊢; exact ⟨hux, huy⟩
    cases hx with
    | row _ _ _ ad cp hl hm' hk hc hcm hnn hv0 =>
    obtain ⟨hcp, hv⟩ := hv0 hm.L.symm
    clear hv0
    subst hcp
    by_cases e0 : ys.length = 0
    · have : ys = [] := List.eq_nil_of_length_eq_zero e0
      subst this
      have hn0 : news = [] := List.eq_nil_of_length_eq_zero (by simpa using n1)
      subst hn0
      have hrun := run_append_fit (ty := ty) ht hu hT (base := ad) (sLen := H.els.length) (sCap := X.cap hh) (n4 X.w rfl) (by simpa using hc) (w' := X.w) (fun a _ => by simp [storeCells]) (fun _ => rfl)
      refine ⟨_, X, own, _, h, hrun, Rel.set (R.mem_get fun g => ?_) dst (.row _ _ _ _ _ hl hm' hk hc hcm hnn fun _ => ⟨rfl, hv⟩)⟩
      rw [mem_get_put]; by_cases e : g = hh
      · subst e; simp [hH]
      · simp [e]
    · have hsx : Src X (.slice ad H.els.length (X.cap hh)) H.els := ⟨_, _, rfl, hc, fun h0 => ⟨_, _, hv (by omega), hm.readable⟩⟩
      obtain ⟨olds, o1, o2, o3, o4⟩ := hsx.cells (P := P) (uni_len hux)
      by_cases hroom : H.els.length + ys.length ≤ X.cap hh
      · have hcap0 : 0 < X.cap hh := by omega
        have hv := hv hcap0
        rcases hm.lay with ⟨ho, q0, q1, q2, ⟨cur, ty', q3, q4, q5, q6⟩, q7, q8⟩ | ⟨_, hcapn, _, _⟩
        case inr => omega
        rw [q0] at hv
        subst hv
        have hfl := flat_uniform (uni_len hm.uni)
        have hoff : H.els.length * ei.size = (flat H.els).length := by rw [hfl, g2]
        have hfit : (flat H.els).length + news.length ≤ cur.size := by
          rw [n1, ← hoff, q4, ← g2, ← Nat.add_mul]; exact Nat.mul_le_mul_right _ hroom
        have hrun := run_append_fit (ty := ty) ht hu hT (base := some ⟨(X.j hh).1, 0, none⟩) (sLen := H.els.length) (sCap := X.cap hh) (n4 X.w rfl) hroom
          (w' := X.w.setRow (X.j hh).1 (cur.toList.take (flat H.els).length ++ news ++ cur.toList.drop ((flat H.els).length + news.length)).toArray) (fun a ha => by
            injection ha with ha; subst ha
            rw [add_off, Nat.zero_add, hoff]
            have := run_storeCells_at P (X.j hh).1 (flat H.els).length ty' news 0 cur X.w q3 (by simpa using hfit) n3
            simpa using this) (fun e => by cases e)
        obtain ⟨r1, r2⟩ := repL_of_cells (by omega) q6
        have hcl : (flat H.els).length ≤ cur.toList.length := by simp; omega
        have R' := R.push hH ho (els := H.els ++ ys) (by simp; omega) (by rw [g2, g3]; exact huxy) (by simpa using hroom) q3
          (cur' := (cur.toList.take (flat H.els).length ++ news ++ cur.toList.drop ((flat H.els).length + news.length)).toArray)
          (by simp; omega) (fun k hk => ?_) (fun k hk hk' => ?_)
        · refine ⟨_, _, own, _, h, hrun, R'.set dst ?_⟩
          refine .row _ _ _ _ _ hl (by simp [Lay.push]) (Nat.le_refl _) hroom hcm (fun e => by cases e) fun _ => ⟨rfl, fun _ => by rw [← q0]; rfl⟩
        · rw [List.append_assoc, List.getElem?_toArray, List.getElem?_append_left (by simp; omega), List.getElem?_take, if_pos hk]; simp
        · refine cells_of_repL (by rw [flat_append]; exact r1.append n2) (fun u hu => ?_) k hk hk'
          exact (List.mem_append.1 hu).elim (r2 u) (n3 u)
      · obtain ⟨rest, cap, wd, hw, hr1, hr2, hr3, hrz, hrun⟩ := run_append_new (ty := ty) ht hu hT n4 o4 (by omega) g4 hby
        have R1 := R.drew hw
        have R' := R1.grow hH (els := H.els ++ ys) (fz := H.fz) (by simp; omega) huxy e (olds.toArray ++ news.toArray ++ rest) cap (by simpa using hr2) hr3 ?_ ?_
        · rw [← g2, ← g3] at R'
          refine ⟨_, _, _, _, h, ?_, R'.set dst (v := .slice (some ⟨X.w.heap.size, 0, none⟩) (H.els.length + ys.length) cap) ?_⟩
          · rw [hrun]; rfl
          · refine .row _ _ _ _ _ (by simp [Lay.newHome]) (by simp [Lay.newHome]) (Nat.le_refl _) hr2 hr3 (fun e => by cases e) fun _ => ?_
            simp [Lay.newHome, hw.heap]
        · simp only [Array.size_append, List.size_toArray, hr1, o1, n1]
          rw [← Nat.add_mul, ← Nat.add_mul]
          congr 1; omega
        · have le : X.Le { X with w := wd } := ⟨fun _ _ h => h, fun b o _ => World.cell?_of_block (by show wd.heap[b]? = _; rw [hw.heap]), fun _ h => h, fun _ _ => .inl ⟨rfl, rfl, rfl⟩⟩
          have hxx : RepL X (olds ++ news) (flat (H.els ++ ys)) := by rw [flat_append]; exact o2.append n2
          refine new_cells (hxx.mono le) ?_
          exact fun u hu => (List.mem_append.1 hu).elim (o3 u) (n3 u)
  · rename_i id off len cap
    obtain ⟨cs, hcs, ⟨hcl, hlc, hoc, hmost⟩, hin, hout⟩ := so_inv h
    have htg := R.ob id cs hcs
    obtain ⟨cur, ty', c1, c2, c3, c4⟩ := htg.cells
    have hfy := flat_uniform (uni_len huy)
    cases hx with
    | ow _ _ _ _ ad q1 q2 q3 =>
    by_cases hroom : len + ys.length ≤ cap
    · by_cases e0 : ys.length = 0
      · have : ys = [] := List.eq_nil_of_length_eq_zero e0
        subst this
        have hn0 : news = [] := List.eq_nil_of_length_eq_zero (by simpa using n1)
        subst hn0
        have hrun := run_append_fit (ty := ty) ht hu hT (base := some ad) (sLen := len) (sCap := cap) (n4 X.w rfl) (by simpa using hlc) (w' := X.w) (fun a _ => by simp [storeCells]) (fun e => by cases e)
        have e1 : st.om.put id (splice cs (off + len * ei.size) (flat [])) = st.om := by
          funext k
          simp only [Om.put]
          split
          · rename_i e; subst e; rw [hcs]; simp [splice, flat]
          · rfl
        have hK := hin hroom
        rw [e1] at hK
        exact ⟨_, X, own, _, hK, hrun, R.set dst (.ow _ _ _ _ ad (by simpa using q1) q2 q3)⟩
      · have hcap0 : 0 < cap := by omega
        have hv := q3 hcap0
        subst hv
        have hfit : off + len * ei.size + news.length ≤ cs.length := by
          have := Nat.mul_le_mul_right ei.size hroom
          rw [Nat.add_mul] at this
          omega
        have hrun := run_append_fit (ty := ty) ht hu hT (base := some ⟨id, off, none⟩) (sLen := len) (sCap := cap) (n4 X.w rfl) hroom
          (w' := X.w.setRow id (cur.toList.take (off + len * ei.size) ++ news ++ cur.toList.drop (off + len * ei.size + news.length)).toArray) (fun a ha => by
            injection ha with ha; subst ha
            rw [add_off]
            have := run_storeCells_at P id (off + len * ei.size) ty' news 0 cur X.w c1 (by simp; omega) n3
            simpa using this) (fun e => by cases e)
        obtain ⟨cur', e1, e2, e3⟩ := set_cells (by omega) c4 n2 n3 (off + len * ei.size) (by rw [hfy]; omega)
        have R' := R.writeObj hcs (cs' := splice cs (off + len * ei.size) (flat ys)) (splice_len (by rw [hfy]; omega)) ?_ cur cur' ty' c1 e2 e3
        · subst e1
          have R2 := R'.set dst (v := .slice (some ⟨id, off, none⟩) (len + ys.length) cap) (x := .ow id off (len + ys.length) cap) (.ow _ _ _ _ _ hroom q2 fun _ => rfl)
          exact ⟨_, _, own, _, hin hroom, hrun, R2⟩
        · unfold splice
          refine cleans_append' (cleans_append' (cleans_take _ htg.cl) (clean_flat hcl)) (cleans_drop _ htg.cl)
    · have hout := hout (by omega)
      replace hout := so_inv hout; obtain ⟨d, rfl, hK⟩ := hout
      have hlen : len * ei.size ≤ cap * ei.size := Nat.mul_le_mul_right _ hlc
      obtain ⟨olds, o1, o2, o3, o4⟩ : ∃ olds : List Value, olds.length = len * ei.size ∧ RepL X olds ((cs.drop off).take (len * ei.size)) ∧ (∀ u ∈ olds, u.oneCell' = true) ∧
          ∀ w : World, w.heap = X.w.heap → (Builtin.firstCells ei.size len (.slice (some ad) len cap)).run P w = .ok olds.toArray w := by
        by_cases e0 : len = 0
        · subst e0
          refine ⟨[], by simp, by rw [Nat.zero_mul, List.take_zero]; exact .nil, by simp, fun w hw => ?_⟩
          exact run_firstCells_some w ei.size 0 ad 0 cap [] (by simp) (by simp)
        · have hv := q3 (by omega)
          subst hv
          have hrd := (htg.cells.readable.sub off (len * ei.size))
          rw [Nat.zero_add] at hrd
          obtain ⟨vals, hv⟩ := hrd
          have hl : ((cs.drop off).take (len * ei.size)).length = len * ei.size := by simp; omega
          refine ⟨(List.range (len * ei.size)).map vals, by simp, .of_get (by simp [hl]) fun k k1 k2 => by simpa using (hv k k2).2.1, fun u hu => ?_, fun w hw => ?_⟩
          · obtain ⟨k, hk, rfl⟩ := List.mem_map.1 hu
            exact (hv k (by rw [hl]; simpa using hk)).2.2
          · refine run_firstCells_some w ei.size len ⟨id, off, none⟩ _ cap _ (by simp) fun j u hj => ?_
            obtain ⟨hj', hj⟩ := List.getElem?_eq_some_iff.1 hj
            simp only [List.length_map, List.length_range] at hj'
            simp only [List.getElem_map, List.getElem_range] at hj
            subst hj
            rw [add_off]
            have := (hv j (by rw [hl]; exact hj')).1
            rw [← this]
            exact World.cell?_of_block (by rw [hw])
      obtain ⟨rest, cap', wd, hw, hr1, hr2, hr3, hrz, hrun⟩ := run_append_new (ty := ty) (sLen := len) (sCap := cap) ht hu hT n4 o4 (by omega) hmost hby
      obtain ⟨X', hn0, hX', R'⟩ := R.appObj (d := d) hw e (olds := olds) (news := news) (rest := rest) (cs := (cs.drop off).take (len * ei.size) ++ flat ys) (zs := flat (List.replicate (cap' - (len + ys.length)) ei.zero)) (len := len + ys.length) (cap := cap')
        (cleans_append' (cleans_take _ (cleans_drop _ htg.cl)) (clean_flat hcl)) (clean_zero hT _) (o2.append n2) (fun u hu => (List.mem_append.1 hu).elim (o3 u) (n3 u)) hrz hr2 hr3
      exact ⟨_, X', own, _, hK _ hn0 cap' hr2 hr3, by rw [hrun, hX'], R'⟩
end
end Go.Proofs.Ytaojebdjkpdcdaa.I
