/- One operation that is no call: what the ideal machine tells is so. -/
import Derived.Test.YtaojebdjkpdcdaaRead
import Derived.Laws.Build
import Derived.Laws.Slices
namespace Go.Proofs.Ytaojebdjkpdcdaa.I
open Go

section
variable {P : Program}

/-- An operation, as the ideal machine has it. -/
def Step (P : Program) (B : Base) (o : Oper) (st : St) (K : St → Prop) : Prop :=
  ∀ X own a, Rel B X own st a → ∃ st' X' own' n u, K st' ∧ (execOp a.eval o).run P X.w = .ok n X'.w ∧ (n = .value u ∨ n = .skip ∧ u = undef) ∧ Rel B X' own' st' (a.put o.dst u)

/-- It yields a value, and leaves memory alone. -/
theorem Step.yield {B : Base} {o : Oper} {st : St} {K : St → Prop}
    (h : ∀ X own a, Rel B X own st a → ∃ r u, K (st.set o.dst r) ∧ Rep X u r ∧ (execOp a.eval o).run P X.w = .ok (.value u) X.w) : Step P B o st K := by
  intro X own a R
  obtain ⟨r, u, hK, hr, hrun⟩ := h X own a R
  exact ⟨_, X, own, _, u, hK, hrun, .inl rfl, R.set o.dst hr⟩

structure COk (P : Program) (cx : Cx) : Prop where
  T : ∀ t i, cx.T t = some i → TOk P t i
  cs : ∀ f c, lk cx.cs f = some c → OkE P f c
  qs : ∀ f c, cx.qs.contains f = true → lk cx.cs f = some c → Quiet c := by intro f c h; simp at h
  rs : ∀ f rc, lkR cx.rs f = some rc → OkR P f rc

theorem addr_sound {X : Lay} {x : V} {d : Nat} {K : V → Prop} {v : Value} (h : @addr x d ⟨K⟩) (hx : Rep X v x) :
    ∃ r b o, K r ∧ v = .pointer (some ⟨b, o, none⟩) ∧ Rep X (.pointer (some ⟨b, o + d, none⟩)) r := by
  unfold addr at h
  split at h <;> first | exact h.elim | skip
  all_goals (simp only at h)
  · cases hx with
    | ref _ _ _ _ _ b o hl hm hv =>
      refine ⟨_, b, o, h, rfl, .ref _ _ _ _ _ _ _ hl hm fun e => ⟨(hv e).1, ?_⟩⟩
      have := (hv e).2
      omega
  · rename_i cs off
    cases hx
    rename_i b o vals hc h1 h2
    refine ⟨_, b, o + off, h, rfl, ?_⟩
    rw [Nat.add_assoc]
    exact .pc b o _ _ vals hc h1 h2
  · rename_i i off
    cases hx
    exact ⟨_, i, off, h, rfl, .obj _ _⟩

theorem fieldOf_inv {cx : Cx} (C : COk P cx) {t : TypeId} {f : Nat} {K : Nat → TypeId → Prop} (h : @fieldOf cx t f ⟨K⟩) :
    ∃ (F : Array Field) (x : Field), P.underlying t = some (.struct F) ∧ F[f]? = some x ∧ K x.offset x.type ∧ ∃ inf, P.info? x.type = some inf ∧ inf.size ≠ 0 := by
  unfold fieldOf at h
  obtain ⟨i, hi, h⟩ := ti_inv h
  split at h <;> first | exact h.elim | skip
  rename_i fs hk
  obtain ⟨p, hp, h⟩ := so_inv h
  obtain ⟨inf, z, d, h1, h2, h3, h4, h5, h6, _⟩ := (C.T _ _ hi).ex
  rw [hk] at h6
  obtain ⟨F, rfl, rfl, hF⟩ := h6
  simp only [List.getElem?_map, Option.map_eq_some_iff] at hp
  obtain ⟨x, hx, rfl⟩ := hp
  have hx' : F[f]? = some x := by simpa using hx
  exact ⟨F, x, h5, hx', h, hF x (Array.mem_of_getElem? hx')⟩

theorem fieldAddr_sound {cx : Cx} (C : COk P cx) {X : Lay} {t : TypeId} {x : V} {f : Nat} {K : V → Prop} {v : Value} (h : @fieldAddr cx t x f ⟨K⟩) (hx : Rep X v x) :
    ∃ r u, K r ∧ Rep X u r ∧ (Instr.fieldAt t v f).run P X.w = .ok u X.w := by
  unfold fieldAddr at h
  obtain ⟨F, fd, hu, hf, h, inf, hi, hs⟩ := fieldOf_inv C h
  obtain ⟨r, b, o, hK, rfl, hr⟩ := addr_sound h hx
  refine ⟨r, _, hK, hr, ?_⟩
  simp [Instr.fieldAt, run_underlying hu, hf, Instr.sureAddr, fieldPlace, run_sizeOf' hi, hs, add_off]

theorem elem_ok {t : TypeId} {i : TI} (hT : TOk P t i) : (P.info? t).map (·.size) = some i.size := by
  obtain ⟨inf, z, d, h1, h2, _⟩ := hT.ex
  simp [h1, h2]

theorem run_indexSlice {t e : TypeId} {ei : TI} (hu : P.underlying t = some (.slice e)) (he : TOk P e ei) (b o len c : Nat) (i : Int) (h0 : 0 ≤ i) (h1 : i < len) (w : World) :
    (Instr.indexAt t (.slice (some ⟨b, o, none⟩) len c) (.int .i64 i)).run P w = .ok (.pointer (some ⟨b, o + i.toNat * ei.size, none⟩)) w := by
  simp [Instr.indexAt, run_underlying hu, asIntOf, he.size, h0, h1, add_off]

theorem run_indexArray {t e : TypeId} {n : Nat} {ei : TI} (hu : P.underlying t = some (.array n e)) (he : TOk P e ei) (b o : Nat) (i : Int) (h0 : 0 ≤ i) (h1 : i < n) (w : World) :
    (Instr.indexAt t (.pointer (some ⟨b, o, none⟩)) (.int .i64 i)).run P w = .ok (.pointer (some ⟨b, o + i.toNat * ei.size, none⟩)) w := by
  simp [Instr.indexAt, run_underlying hu, asIntOf, Instr.sureAddr, he.size, h0, h1, add_off]

theorem flat_uniform {xs : List V} {es : Nat} (h : ∀ x ∈ xs, x.cells.length = es) : (flat xs).length = xs.length * es := by
  induction xs with
  | nil => simp [flat]
  | cons x xs ih =>
    have e1 := h x (by simp)
    have e2 := ih fun y hy => h y (by simp [hy])
    simp only [flat, List.flatMap_cons, List.length_append, List.length_cons] at e2 ⊢
    rw [e1, e2, Nat.succ_mul, Nat.add_comm]

theorem flat_elem {xs : List V} {es : Nat} (h : ∀ x ∈ xs, x.cells.length = es) (k : Nat) (hk : k < xs.length) : ((flat xs).drop (k * es)).take es = xs[k].cells := by
  induction xs generalizing k with
  | nil => simp at hk
  | cons x xs ih =>
    have e1 := h x (by simp)
    cases k with
    | zero => simp [flat, ← e1]
    | succ k =>
      have e2 := ih (fun y hy => h y (by simp [hy])) k (by simpa using hk)
      simp only [flat, List.flatMap_cons, List.getElem_cons_succ] at e2 ⊢
      rw [← e2, List.drop_append]
      congr 1
      rw [List.drop_eq_nil_of_le (by rw [e1, Nat.succ_mul]; omega), List.nil_append]
      congr 1
      rw [e1, Nat.succ_mul]; omega

theorem Fixed.sub {X : Lay} {b o : Nat} {cs : List V} (h : Fixed X b o cs) (d n : Nat) : Fixed X b (o + d) ((cs.drop d).take n) := by
  obtain ⟨vals, h1, h2⟩ := h
  refine ⟨fun k => vals (d + k), fun k hk => ?_, fun k hk => ?_⟩
  · simp only [List.length_take, List.length_drop] at hk
    rw [Nat.add_assoc]; exact h1 (d + k) (by omega)
  · simp only [List.length_take, List.length_drop] at hk
    have := h2 (d + k) (by omega)
    simpa using this

/-- The address of an element of a list that is never written any more. -/
theorem fixed_elem {X : Lay} {b o es : Nat} {xs : List V} (hcl : cleans xs = true) (hu : ∀ x ∈ xs, x.cells.length = es) (h : Fixed X b o (flat xs)) (k : Nat) (hk : k < xs.length) (z : V) :
    Rep X (.pointer (some ⟨b, o + k * es, none⟩)) (.pc (xs.getD k z).cells 0) := by
  have e : xs.getD k z = xs[k] := by simp [List.getD, hk]
  have hf := h.sub (k * es) es
  rw [flat_elem hu k hk, ← e] at hf
  have := Rep.pc_fixed (off := 0) (clean_cells ((cleans_iff _).1 hcl _ (by rw [e]; exact List.getElem_mem hk))) hf
  simpa using this

theorem COk.slice {cx : Cx} (C : COk P cx) {t e : TypeId} {i : TI} (h : cx.T t = some i) (hk : i.k = .slice e) : P.underlying t = some (.slice e) := by
  obtain ⟨inf, z, d, h1, h2, h3, h4, h5, h6, _⟩ := (C.T _ _ h).ex
  rw [hk] at h6; simp only [TK.fits] at h6; rw [h5, h6]

theorem COk.array {cx : Cx} (C : COk P cx) {t e : TypeId} {n : Nat} {i : TI} (h : cx.T t = some i) (hk : i.k = .array n e) : P.underlying t = some (.array n e) := by
  obtain ⟨inf, z, d, h1, h2, h3, h4, h5, h6, _⟩ := (C.T _ _ h).ex
  rw [hk] at h6; simp only [TK.fits] at h6; rw [h5, h6]

theorem indexAddr_sound {cx : Cx} (C : COk P cx) {B : Base} {X : Lay} {own : Nat → Prop} {st : St} {a : Act} (R : Rel B X own st a) {t : TypeId} {x ix : V} {K : V → Prop} {v w : Value}
    (h : @indexAddr cx st.mem t x ix ⟨K⟩) (hx : Rep X v x) (hix : Rep X w ix) : ∃ r u, K r ∧ Rep X u r ∧ (Instr.indexAt t v w).run P X.w = .ok u X.w := by
  unfold indexAddr at h
  replace h := ti_inv h; obtain ⟨i, hi, h⟩ := h
  split at h <;> first | exact h.elim | skip
  · rename_i e k hk
    replace h := ti_inv h; obtain ⟨ei, hei, h⟩ := h
    have hu := C.slice hi hk
    have he := C.T _ _ hei
    cases hix with
    | z _ _ =>
    split at h <;> first | exact h.elim | skip
    · rename_i xs
      obtain ⟨⟨⟨h0, h1⟩, hs⟩, h⟩ := h
      have hk' : k.toNat < xs.length := by omega
      cases hx with
      | sl0 => simp at hk'
      | sl b o c es _ vals hc hcm hcl hun g1 g2 =>
        have e : xs.getD k.toNat ei.zero = xs[k.toNat] := by simp [List.getD, hk']
        have e2 : es = ei.size := by rw [← hs, e]; exact (hun _ (List.getElem_mem hk')).symm
        subst e2
        exact ⟨_, _, h, fixed_elem hcl hun ⟨vals, g1, g2⟩ k.toNat hk' _, run_indexSlice hu he b o _ c k h0 h1 _⟩
    · rename_i xs
      obtain ⟨⟨⟨h0, h1⟩, hs⟩, h⟩ := h
      have hk' : k.toNat < xs.length := by omega
      cases hx with
      | lit b o es _ vals hcm hcl hun g1 g2 =>
        have e : xs.getD k.toNat ei.zero = xs[k.toNat] := by simp [List.getD, hk']
        have e2 : es = ei.size := by rw [← hs, e]; exact (hun _ (List.getElem_mem hk')).symm
        subst e2
        exact ⟨_, _, h, fixed_elem hcl hun ⟨vals, g1, g2⟩ k.toNat hk' _, run_indexSlice hu he b o _ _ k h0 h1 _⟩
    · rename_i hh n len
      replace h := so_inv h; obtain ⟨H, hH, ⟨h1, h2, h3, h4⟩, h⟩ := h
      cases hx with
      | row _ _ _ ad c hl hm hk2 hc hcm hnn hv =>
        have hL := (R.hm _ _ hH).L
        obtain ⟨_, hv⟩ := hv (by omega)
        have := hv (by omega)
        subst this
        refine ⟨_, _, h, .ref _ _ _ _ _ _ _ hl hm fun _ => ⟨rfl, ?_⟩, run_indexSlice hu he _ _ _ c k h3 h4 _⟩
        omega
    · rename_i p len
      obtain ⟨hs, ⟨h0, h1⟩, h⟩ := h
      cases hx with
      | arr ad _ c _ ad' hp hc hcm hv =>
        obtain ⟨r, b, o, hK, e, hr⟩ := addr_sound h hp
        have e1 := hv (by omega)
        subst e1
        injection e with e
        injection e with e
        subst e
        refine ⟨r, _, hK, hr, ?_⟩
        have := run_indexSlice hu he b o len c k h0 h1 X.w
        rwa [hs, Nat.mul_one] at this
    · rename_i id off len cap
      obtain ⟨⟨h0, h1⟩, h⟩ := h
      cases hx with
      | ow _ _ _ _ ad q1 q2 q3 =>
        have := q3 (by omega)
        subst this
        exact ⟨_, _, h, .obj id _, run_indexSlice hu he id off len cap k h0 h1 _⟩
  · rename_i n e k hk
    replace h := ti_inv h; obtain ⟨ei, hei, ⟨h0, h1⟩, h⟩ := h
    have hu := C.array hi hk
    have he := C.T _ _ hei
    cases hix with
    | z _ _ =>
    obtain ⟨r, b, o, hK, rfl, hr⟩ := addr_sound h hx
    exact ⟨r, _, hK, hr, run_indexArray hu he b o k h0 h1 _⟩

theorem fits_spec {es : Nat} {ag : Bool} {x : V} (h : x.fits es ag = true) : x.isA = ag ∧ x.cells.length = es := by
  unfold V.fits at h
  split at h <;> simp_all [V.isA, V.cells]

theorem uni_iff {es : Nat} {ag : Bool} {xs : List V} : uni es ag xs = true ↔ ∀ x ∈ xs, x.fits es ag = true := by
  simp [uni]

theorem uni_len {es : Nat} {ag : Bool} {xs : List V} (h : uni es ag xs = true) : ∀ x ∈ xs, x.cells.length = es := fun x hx => (fits_spec (uni_iff.1 h x hx)).2

theorem cells_one {x : V} (h : x.isA = false) : x.cells = [x] := by
  cases x <;> simp_all [V.isA, V.cells]

theorem cells_agg {x : V} (h : x.isA = true) : x = .agg x.cells := by
  cases x <;> simp_all [V.isA, V.cells]

theorem Home.readable {B : Base} {X : Lay} {own : Nat → Prop} {h : Nat} {H : Hm} (hm : Home B X own h H) : Readable X (X.j h).1 (X.j h).2 (flat H.els) := by
  rcases hm.lay with ⟨_, h0, _, _, hc, _⟩ | ⟨_, _, _, hf⟩
  · rw [h0]; exact hc.readable
  · exact hf.readable

theorem load_sound {cx : Cx} (C : COk P cx) {B : Base} {X : Lay} {own : Nat → Prop} {st : St} {a : Act} (R : Rel B X own st a) {t : TypeId} {x : V} {K : V → Prop} {v : Value}
    (h : @load cx st t x ⟨K⟩) (hx : Rep X v x) : ∃ r u, K r ∧ Rep X u r ∧ (Instr.loadAt t v).run P X.w = .ok u X.w := by
  unfold load at h
  replace h := ti_inv h; obtain ⟨i, hi, h⟩ := h
  have hT := C.T _ _ hi
  split at h <;> first | exact h.elim | skip
  · rename_i cs off
    cases hx with
    | pc b o _ _ vals hc h1 h2 =>
      obtain ⟨r, u, hK, hr, hrun⟩ := loadVar_sound hT (Fixed.readable ⟨vals, h1, h2⟩) h
      exact ⟨r, u, hK, hr, by simp [Instr.loadAt, Instr.sureAddr, hrun]⟩
  · rename_i hh m es j off
    replace h := so_inv h; obtain ⟨H, hH, ⟨h1, h2, h3⟩, h⟩ := h
    have hm := R.hm _ _ hH
    cases hx with
    | ref _ _ _ _ _ b o hl hm' hv =>
      obtain ⟨rfl, rfl⟩ := hv (by rw [hm.L]; exact h1.symm)
      subst h3
      have hj : j < H.els.length := by omega
      have hrd := hm.readable.sub (j * H.es) H.es
      rw [flat_elem (uni_len hm.uni) j hj] at hrd
      unfold elemGet at h
      cases hag : H.ag with
      | true =>
        simp only [hag] at h
        have e : H.els.getD j .u = H.els[j] := by simp [List.getD, hj]
        rw [e] at h
        obtain ⟨r, u, hK, hr, hrun⟩ := loadVar_sound hT hrd h
        refine ⟨r, u, hK, hr, ?_⟩
        simpa [Instr.loadAt, Instr.sureAddr, Nat.add_assoc] using hrun
      | false =>
        simp only [hag] at h
        obtain ⟨⟨rfl, ha⟩, h⟩ := h
        have e : H.els.getD j i.zero = H.els[j] := by simp [List.getD, hj]
        rw [e] at h
        obtain ⟨e1, e2⟩ := fits_spec (uni_iff.1 hm.uni _ (List.getElem_mem hj))
        rw [hag] at e1
        rw [cells_one e1] at hrd
        have hp : @part i [H.els[j]] 0 ⟨K⟩ := by
          refine ⟨by rw [hasN_iff, hT.sz ha]; simp, ?_⟩
          simp only [ha]; exact h
        obtain ⟨r, u, hK, hr, hrun⟩ := loadVar_sound hT hrd hp
        refine ⟨r, u, hK, hr, ?_⟩
        simpa [Instr.loadAt, Instr.sureAddr, Nat.add_assoc] using hrun
  · rename_i id off
    replace h := so_inv h; obtain ⟨cs, hcs, h⟩ := h
    cases hx with
    | obj _ _ =>
      obtain ⟨r, u, hK, hr, hrun⟩ := loadVar_sound hT (R.ob _ _ hcs).cells.readable h
      exact ⟨r, u, hK, hr, by simpa [Instr.loadAt, Instr.sureAddr] using hrun⟩

theorem Fixed.take {X : Lay} {b o : Nat} {xs : List V} (n : Nat) (h : Fixed X b o (flat xs)) : Fixed X b o (flat (xs.take n)) := by
  have e : flat (xs.take n) = ((flat xs).drop 0).take (flat (xs.take n)).length := by
    rw [List.drop_zero]
    have : flat xs = flat (xs.take n) ++ flat (xs.drop n) := by
      unfold flat; rw [← List.flatMap_append, List.take_append_drop]
    rw [this, List.take_left]
  rw [e]
  exact h.sub 0 _

theorem Fixed.drop {X : Lay} {b o es : Nat} {xs : List V} (hu : ∀ x ∈ xs, x.cells.length = es) (n : Nat) (hn : n ≤ xs.length) (h : Fixed X b o (flat xs)) : Fixed X b (o + n * es) (flat (xs.drop n)) := by
  have e : flat (xs.drop n) = ((flat xs).drop (n * es)).take (flat xs).length := by
    have h1 : flat xs = flat (xs.take n) ++ flat (xs.drop n) := by
      unfold flat; rw [← List.flatMap_append, List.take_append_drop]
    have h2 : (flat (xs.take n)).length = n * es := by
      rw [flat_uniform (es := es) fun x hx => hu x (List.mem_of_mem_take hx), List.length_take, Nat.min_eq_left hn]
    rw [List.take_of_length_le (by simp)]
    conv => rhs; rw [h1]
    rw [List.drop_left' h2]
  rw [e]
  exact h.sub _ _

theorem cleans_take {xs : List V} (n : Nat) (h : cleans xs = true) : cleans (xs.take n) = true :=
  (cleans_iff _).2 fun x hx => (cleans_iff _).1 h x (List.mem_of_mem_take hx)
theorem cleans_drop {xs : List V} (n : Nat) (h : cleans xs = true) : cleans (xs.drop n) = true :=
  (cleans_iff _).2 fun x hx => (cleans_iff _).1 h x (List.mem_of_mem_drop hx)

/-- A bound, and the real one. -/
def OptRep (X : Lay) (w : Option Value) (x : Option V) : Prop :=
  match x with
  | none => w = none
  | some y => ∃ u, w = some u ∧ Rep X u y

theorem bnd_inv {X : Lay} {x : Option V} {w : Option Value} {d : Int} {K : Int → Prop} (h : @bnd x d ⟨K⟩) (hw : OptRep X w x) :
    ∃ k, K k ∧ ((x = none ∧ w = none ∧ k = d) ∨ (x.isSome = true ∧ w = some (.int .i64 k))) := by
  unfold bnd at h
  split at h <;> first | exact h.elim | skip
  · exact ⟨_, h, .inl ⟨rfl, hw, rfl⟩⟩
  · obtain ⟨u, rfl, hu⟩ := hw
    cases hu
    exact ⟨_, h, .inr ⟨rfl, rfl⟩⟩

/-- What a slice expression of a slice does. -/
theorem run_sliceAt {t e : TypeId} {ei : TI} (hu : P.underlying t = some (.slice e)) (he : TOk P e ei) (ad : Option Addr) (len cap : Nat) (lo hi : Option Value) (a b : Int) (w : World)
    (h0 : 0 ≤ a) (h1 : a ≤ b) (h2 : b ≤ cap) (hlo : (lo = none ∧ a = 0) ∨ lo = some (.int .i64 a)) (hhi : (hi = none ∧ b = len) ∨ hi = some (.int .i64 b)) :
    (Instr.sliceAt t (.slice ad len cap) lo hi none).run P w =
      .ok (.slice (if cap = a.toNat then ad else ad.map (·.add (a.toNat * ei.size))) (b.toNat - a.toNat) (cap - a.toNat)) w := by
  obtain ⟨a, rfl⟩ := Int.eq_ofNat_of_zero_le h0
  obtain ⟨b, rfl⟩ := Int.eq_ofNat_of_zero_le (by omega : 0 ≤ b)
  have g1 : ∀ y : Nat, b ≤ y → ∀ code, (Instr.sliceBound (.int .i64 (b : Int)) y code).run P w = .ok b w := fun y hy code => by
    have := run_sliceBound (P := P) w .i64 (b : Int) y code (by omega) (by omega); simpa using this
  have g2 : ∀ y : Nat, a ≤ y → ∀ code, (Instr.sliceBound (.int .i64 (a : Int)) y code).run P w = .ok a w := fun y hy code => by
    have := run_sliceBound (P := P) w .i64 (a : Int) y code (by omega) (by omega); simpa using this
  have h1' : a ≤ b := by omega
  have h2' : b ≤ cap := by omega
  rcases hlo with ⟨rfl, e1⟩ | rfl <;> rcases hhi with ⟨rfl, e2⟩ | rfl
  · obtain rfl : a = 0 := by omega
    obtain rfl : b = len := by omega
    simp [Instr.sliceAt, Instr.slice, run_underlying hu, Instr.sliceBounds, he.size]
  · obtain rfl : a = 0 := by omega
    simp [Instr.sliceAt, Instr.slice, run_underlying hu, Instr.sliceBounds, he.size, g1 _ h2']
  · obtain rfl : b = len := by omega
    simp [Instr.sliceAt, Instr.slice, run_underlying hu, Instr.sliceBounds, he.size, g2 _ h1']
  · simp [Instr.sliceAt, Instr.slice, run_underlying hu, Instr.sliceBounds, he.size, g1 _ h2', g2 _ h1']

/-- The same of a variable that is an array. -/
theorem run_sliceArr {t e : TypeId} {ei : TI} {n : Nat} (hu : P.underlying t = some (.array n e)) (he : TOk P e ei) (ad : Addr) (lo hi mx : Option Value) (a b c : Int) (w : World)
    (h0 : 0 ≤ a) (h1 : a ≤ b) (h2 : b ≤ c) (h3 : c ≤ n) (hlo : (lo = none ∧ a = 0) ∨ lo = some (.int .i64 a)) (hhi : (hi = none ∧ b = n) ∨ hi = some (.int .i64 b))
    (hmx : (mx = none ∧ c = n) ∨ (mx = some (.int .i64 c) ∧ hi = some (.int .i64 b))) :
    (Instr.sliceAt t (.pointer (some ad)) lo hi mx).run P w =
      .ok (.slice (some (if c.toNat = a.toNat then ad else ad.add (a.toNat * ei.size))) (b.toNat - a.toNat) (c.toNat - a.toNat)) w := by
  obtain ⟨a, rfl⟩ := Int.eq_ofNat_of_zero_le h0
  obtain ⟨b, rfl⟩ := Int.eq_ofNat_of_zero_le (by omega : 0 ≤ b)
  obtain ⟨c, rfl⟩ := Int.eq_ofNat_of_zero_le (by omega : 0 ≤ c)
  have g1 : ∀ y : Nat, b ≤ y → ∀ code, (Instr.sliceBound (.int .i64 (b : Int)) y code).run P w = .ok b w := fun y hy code => by
    have := run_sliceBound (P := P) w .i64 (b : Int) y code (by omega) (by omega); simpa using this
  have g2 : ∀ y : Nat, a ≤ y → ∀ code, (Instr.sliceBound (.int .i64 (a : Int)) y code).run P w = .ok a w := fun y hy code => by
    have := run_sliceBound (P := P) w .i64 (a : Int) y code (by omega) (by omega); simpa using this
  have g3 : ∀ y : Nat, c ≤ y → ∀ code, (Instr.sliceBound (.int .i64 (c : Int)) y code).run P w = .ok c w := fun y hy code => by
    have := run_sliceBound (P := P) w .i64 (c : Int) y code (by omega) (by omega); simpa using this
  have h1' : a ≤ b := by omega
  have h2' : b ≤ c := by omega
  have h3' : c ≤ n := by omega
  have h4' : b ≤ n := by omega
  rcases hmx with ⟨rfl, e3⟩ | ⟨rfl, rfl⟩
  · obtain rfl : c = n := by omega
    rcases hlo with ⟨rfl, e1⟩ | rfl <;> rcases hhi with ⟨rfl, e2⟩ | rfl
    · obtain rfl : a = 0 := by omega
      obtain rfl : b = c := by omega
      simp [Instr.sliceAt, Instr.sureAddr, run_underlying hu, Instr.sliceBounds, he.size]
    · obtain rfl : a = 0 := by omega
      simp [Instr.sliceAt, Instr.sureAddr, run_underlying hu, Instr.sliceBounds, he.size, g1 _ h2']
    · obtain rfl : b = c := by omega
      simp [Instr.sliceAt, Instr.sureAddr, run_underlying hu, Instr.sliceBounds, he.size, g2 _ h1']
    · simp [Instr.sliceAt, Instr.sureAddr, run_underlying hu, Instr.sliceBounds, he.size, g1 _ h2', g2 _ h1']
  · rcases hlo with ⟨rfl, e1⟩ | rfl
    · obtain rfl : a = 0 := by omega
      simp [Instr.sliceAt, Instr.sureAddr, run_underlying hu, Instr.sliceBounds, he.size, g1 _ h2', g3 _ h3']
    · simp [Instr.sliceAt, Instr.sureAddr, run_underlying hu, Instr.sliceBounds, he.size, g1 _ h2', g2 _ h1', g3 _ h3']

theorem sub_sl {X : Lay} {b o c es : Nat} {xs : List V} (hcl : cleans xs = true) (hu : ∀ x ∈ xs, x.cells.length = es) (h : Fixed X b o (flat xs)) (k m : Nat) (h1 : k ≤ m) (h2 : m ≤ xs.length) (h3 : xs.length ≤ c) (h4 : c ≤ maxLen) :
    Rep X (.slice (if c = k then some ⟨b, o, none⟩ else some ⟨b, o + k * es, none⟩) (m - k) (c - k)) (.sl ((xs.take m).drop k)) := by
  have hl : ((xs.take m).drop k).length = m - k := by simp; omega
  by_cases e : m = k
  · subst e
    have : (xs.take m).drop m = [] := List.eq_nil_of_length_eq_zero (by omega)
    rw [this, Nat.sub_self]; exact .sl0 _ _
  · rw [if_neg (by omega), ← hl]
    have hu' : ∀ x ∈ xs.take m, x.cells.length = es := fun x hx => hu x (List.mem_of_mem_take hx)
    exact .sl_fixed (es := es) (by omega) (by omega) (cleans_drop _ (cleans_take _ hcl)) (fun x hx => hu' x (List.mem_of_mem_drop hx)) ((h.take m).drop hu' k (by simp; omega))

theorem int_nat {k : Int} (h : 0 ≤ k) : ∃ n : Nat, k = n := Int.eq_ofNat_of_zero_le h

theorem slice_sound {cx : Cx} (C : COk P cx) {X : Lay} {t : TypeId}
    {x : V} {lo hi mx : Option V} {lo' hi'' mx' : Option Value} {K : V → Prop} {v : Value}
    (h : @slice cx t x lo hi mx ⟨K⟩) (hx : Rep X v x) (hlo : OptRep X lo' lo) (hhi : OptRep X hi'' hi) (hmx : OptRep X mx' mx) :
    ∃ r u, K r ∧ Rep X u r ∧ (Instr.sliceAt t v lo' hi'' mx').run P X.w = .ok u X.w := by
  unfold slice at h
  replace h := ti_inv h; obtain ⟨i, hi', h⟩ := h
  split at h <;> first | exact h.elim | skip
  · rename_i e hk
    obtain ⟨hm, h⟩ := h
    replace h := ti_inv h; obtain ⟨ei, hei, h⟩ := h
    have hu := C.slice hi' hk
    have he := C.T _ _ hei
    have em : mx' = none := by
      cases mx with
      | none => exact hmx
      | some _ => simp at hm
    subst em
    have bl : ∀ {k : Int}, (lo = none ∧ lo' = none ∧ k = 0) ∨ (lo.isSome = true ∧ lo' = some (.int .i64 k)) → (lo' = none ∧ k = 0) ∨ lo' = some (.int .i64 k) := fun h => by
      rcases h with ⟨_, h1, h2⟩ | ⟨_, h1⟩
      · exact .inl ⟨h1, h2⟩
      · exact .inr h1
    have bh : ∀ {k d : Int}, (hi = none ∧ hi'' = none ∧ k = d) ∨ (hi.isSome = true ∧ hi'' = some (.int .i64 k)) → (hi'' = none ∧ k = d) ∨ hi'' = some (.int .i64 k) := fun h => by
      rcases h with ⟨_, h1, h2⟩ | ⟨_, h1⟩
      · exact .inl ⟨h1, h2⟩
      · exact .inr h1
    unfold sliceS at h
    split at h <;> first | exact h.elim | skip
    · rename_i xs
      obtain ⟨k, h, ha⟩ := bnd_inv h hlo
      obtain ⟨m, h, hb⟩ := bnd_inv h hhi
      obtain ⟨⟨⟨h0, h1, h2⟩, hun⟩, h⟩ := h
      obtain ⟨k, rfl⟩ := int_nat h0
      obtain ⟨m, rfl⟩ := int_nat (by omega : 0 ≤ m)
      simp only [Int.toNat_natCast] at h
      cases hx with
      | sl0 ad c =>
        have hm0 : m = 0 := by simp at h2; omega
        obtain rfl : k = 0 := by omega
        subst hm0
        refine ⟨_, _, h, ?_, run_sliceAt hu he ad 0 c lo' hi'' 0 0 _ (by omega) (by omega) (by omega) (bl ha) (bh hb)⟩
        simp; exact .sl0 _ _
      | sl b o c es _ vals hc hcm hcl hu' g1 g2 =>
        refine ⟨_, _, h, ?_, run_sliceAt hu he _ xs.length c lo' hi'' k m _ (by omega) (by omega) (by omega) (bl ha) (bh hb)⟩
        have es' : ∀ x ∈ xs, x.cells.length = ei.size := uni_len hun
        have := sub_sl (c := c) hcl es' ⟨vals, g1, g2⟩ k m (by omega) (by omega) hc hcm
        simpa [add_off] using this
    · rename_i xs
      obtain ⟨k, h, ha⟩ := bnd_inv h hlo
      obtain ⟨m, h, hb⟩ := bnd_inv h hhi
      obtain ⟨⟨⟨h0, h1, h2⟩, hun⟩, h⟩ := h
      obtain ⟨k, rfl⟩ := int_nat h0
      obtain ⟨m, rfl⟩ := int_nat (by omega : 0 ≤ m)
      simp only [Int.toNat_natCast] at h
      cases hx with
      | lit b o es _ vals hcm hcl hu' g1 g2 =>
        refine ⟨_, _, h, ?_, run_sliceAt hu he _ xs.length xs.length lo' hi'' k m _ (by omega) (by omega) (by omega) (bl ha) (bh hb)⟩
        have es' : ∀ x ∈ xs, x.cells.length = ei.size := uni_len hun
        have := sub_sl (c := xs.length) hcl es' ⟨vals, g1, g2⟩ k m (by omega) (by omega) (Nat.le_refl _) hcm
        simpa [add_off] using this
    · rename_i hh n len
      obtain ⟨k, h, ha⟩ := bnd_inv h hlo
      obtain ⟨m, h, hb⟩ := bnd_inv h hhi
      obtain ⟨⟨rfl, h1, h2⟩, h⟩ := h
      obtain ⟨m, rfl⟩ := int_nat h1
      simp only [Int.toNat_natCast] at h
      cases hx with
      | row _ _ _ ad c hl hm2 hk2 hc hcm hnn hv =>
        refine ⟨_, _, h, ?_, run_sliceAt hu he ad len c lo' hi'' 0 m _ (by omega) (by omega) (by omega) (bl ha) (bh hb)⟩
        have e : (if c = Int.toNat 0 then ad else ad.map (·.add (Int.toNat 0 * ei.size))) = ad := by
          split
          · rfl
          · cases ad <;> simp [Addr.add]
        rw [e]
        exact .row _ _ _ _ _ hl hm2 (by simp; omega) (by simp; omega) (by simp; omega) (fun e => by have := hnn e; simp; omega) hv
    · rename_i p len
      obtain ⟨k, h, ha⟩ := bnd_inv h hlo
      obtain ⟨m, h, hb⟩ := bnd_inv h hhi
      obtain ⟨⟨hs, h0, h1, h2⟩, h⟩ := h
      obtain ⟨k, rfl⟩ := int_nat h0
      obtain ⟨m, rfl⟩ := int_nat (by omega : 0 ≤ m)
      cases hx with
      | arr ad _ c _ ad' hp hc hcm hv =>
        obtain ⟨r, b, o, hK, e, hr⟩ := addr_sound h hp
        injection e with e
        injection e with e
        subst e
        refine ⟨_, _, hK, ?_, run_sliceAt hu he ad len c lo' hi'' k m _ (by omega) (by omega) (by omega) (bl ha) (bh hb)⟩
        have el : ((m : Int) - k).toNat = m - k := by omega
        rw [el]
        simp only [Int.toNat_natCast] at hr ⊢
        refine .arr _ _ _ _ _ hr (by omega) (by omega) fun hlt => ?_
        rw [if_neg (by omega), hv (by omega)]
        simp [add_off, hs]
    · rename_i id off len cap
      obtain ⟨k, h, ha⟩ := bnd_inv h hlo
      obtain ⟨m, h, hb⟩ := bnd_inv h hhi
      obtain ⟨⟨h0, h1, h2⟩, h⟩ := h
      obtain ⟨k, rfl⟩ := int_nat h0
      obtain ⟨m, rfl⟩ := int_nat (by omega : 0 ≤ m)
      cases hx with
      | ow _ _ _ _ ad q1 q2 q3 =>
        have hr := run_sliceAt hu he (some ad) len cap lo' hi'' k m X.w (by omega) (by omega) (by omega) (bl ha) (bh hb)
        have el : ((m : Int) - k).toNat = m - k := by omega
        rw [el] at h
        simp only [Int.toNat_natCast] at h hr
        obtain ⟨ad', e1, e2⟩ : ∃ ad', (if cap = k then some ad else (some ad).map (·.add (k * ei.size))) = some ad' ∧ (0 < cap - k → ad' = ⟨id, off + k * ei.size, none⟩) := by
          by_cases e : cap = k
          · exact ⟨ad, by simp [e], fun h => by omega⟩
          · refine ⟨ad.add (k * ei.size), by simp [e], fun h => ?_⟩
            rw [q3 (by omega), add_off]
        rw [e1] at hr
        exact ⟨_, _, h, .ow _ _ _ _ ad' (by omega) (by omega) e2, hr⟩
  · rename_i n e hk
    replace h := ti_inv h; obtain ⟨ei, hei, h⟩ := h
    have hu := C.array hi' hk
    have he := C.T _ _ hei
    obtain ⟨k, h, ha⟩ := bnd_inv h hlo
    obtain ⟨m, h, hb⟩ := bnd_inv h hhi
    obtain ⟨c, h, hc⟩ := bnd_inv h hmx
    obtain ⟨⟨hs, h0, h1, h2, h3, h4, hnm⟩, h⟩ := h
    obtain ⟨r, b, o, hK, rfl, hr⟩ := addr_sound h hx
    refine ⟨_, _, hK, ?_, run_sliceArr hu he ⟨b, o, none⟩ lo' hi'' mx' k m c _ h0 h1 h2 h3 ?_ ?_ ?_⟩
    · obtain ⟨k, rfl⟩ := int_nat h0
      obtain ⟨m, rfl⟩ := int_nat (by omega : 0 ≤ m)
      obtain ⟨c, rfl⟩ := int_nat (by omega : 0 ≤ c)
      have el : ((m : Int) - k).toNat = m - k := by omega
      rw [el]
      simp only [Int.toNat_natCast] at hr ⊢
      refine .arr _ _ _ _ _ hr (by omega) (by have : most ≤ maxLen := by decide
                                              omega) fun hlt => ?_
      rw [if_neg (by omega)]
      simp [add_off, hs]
    · rcases ha with ⟨_, g1, g2⟩ | ⟨_, g1⟩
      · exact .inl ⟨g1, g2⟩
      · exact .inr g1
    · rcases hb with ⟨_, g1, g2⟩ | ⟨_, g1⟩
      · exact .inl ⟨g1, g2⟩
      · exact .inr g1
    · rcases hc with ⟨_, g1, g2⟩ | ⟨g0, g1⟩
      · exact .inl ⟨g1, g2⟩
      · refine .inr ⟨g1, ?_⟩
        rcases hb with ⟨g3, _, _⟩ | ⟨_, g3⟩
        · have := h4 g0; simp [g3] at this
        · exact g3
end
end Go.Proofs.Ytaojebdjkpdcdaa.I
