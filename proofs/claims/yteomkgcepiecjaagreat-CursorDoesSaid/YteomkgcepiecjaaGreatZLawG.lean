/- From a contract to a statement: plain data of any shape comes from outside. -/
import Derived.Test.YteomkgcepiecjaaGreatZM4
import Derived.Test.YteomkgcepiecjaaGreatZM3
namespace Go.Proofs.YteomkgcepiecjaaGreat.I
open Go Go.RowKit Go.ChangeAt Go.ChangeShapes Go.WideShapes
set_option linter.unusedVariables false
set_option linter.unusedSimpArgs false
inductive Sh where
  | n (k : IntKind)
  | z
  | b
  | seq (l : List Sh)
  | sl (es : Nat) (ag : Bool) (s : Sh)
mutual
def Sh.ok : Sh → List V → Prop
  | .n k, xs => ∃ a, xs = [.n k a]
  | .z, xs => ∃ a, xs = [.z a]
  | .b, xs => ∃ a, xs = [.b a]
  | .seq l, xs => oks l xs
  | .sl es ag s, xs => ∃ ys, xs = [.sl ys] ∧ ∀ y ∈ ys, V.fits es ag y = true ∧ Sh.ok s y.cells
def oks : List Sh → List V → Prop
  | [], xs => xs = []
  | s :: l, xs => ∃ a b, xs = a ++ b ∧ Sh.ok s a ∧ oks l b
end
def aggT (P : Program) (t : TypeId) : Bool := match P.underlying t with | some (.struct _) => true | some (.array _ _) => true | _ => false
def contig (P : Program) : Nat → List (Nat × TypeId) → Nat → Bool
  | acc, [], tot => acc == tot
  | acc, (o, t) :: l, tot => o == acc && contig P (acc + P.cellsOf t) l tot
def fieldParts (fs : List Field) : List (Nat × TypeId) := fs.map fun f => (f.offset, f.type)
def arrParts (P : Program) (m : Nat) (e : TypeId) : List (Nat × TypeId) := (List.range m).map fun i => (i * P.cellsOf e, e)
def shapeOf (P : Program) : Nat → TypeId → Option Sh
  | 0, _ => none
  | n + 1, t => match P.underlying t with
    | some .bool => if P.cellsOf t = 1 then some .b else none
    | some (.int k) => if P.cellsOf t = 1 then (if k = .i64 then some .z else if k.signed = true then none else some (.n k)) else none
    | some (.slice e) => if P.cellsOf e = 0 ∨ P.cellsOf t ≠ 1 then none else (shapeOf P n e).map fun s => .sl (P.cellsOf e) (aggT P e) s
    | some (.struct fs) => if contig P 0 (fieldParts fs.toList) (P.cellsOf t) = true then ((fieldParts fs.toList).mapM fun p => shapeOf P n p.2).map .seq else none
    | some (.array m e) => if contig P 0 (arrParts P m e) (P.cellsOf t) = true then ((arrParts P m e).mapM fun p => shapeOf P n p.2).map .seq else none
    | _ => none
structure Told (W : World) (cs : List Value) (xs : List V) (sh : Sh) : Prop where
  rep : RepL (base W) cs xs
  one : ∀ c ∈ cs, c.oneCell' = true
  cl : cleans xs = true
  ok : sh.ok xs
structure Tolds (W : World) (cs : List Value) (xs : List V) (l : List Sh) : Prop where
  rep : RepL (base W) cs xs
  one : ∀ c ∈ cs, c.oneCell' = true
  cl : cleans xs = true
  ok : oks l xs
theorem cleans_append {xs ys : List V} (h : cleans xs = true) (g : cleans ys = true) : cleans (xs ++ ys) = true := by
  rw [cleans_iff] at *
  intro x hx
  rcases List.mem_append.1 hx with e | e
  · exact h x e
  · exact g x e
section
variable {H : Type} {enc : TypeId × Value → H} {P : Program} {W : World} {spare : Nat → Bool}
theorem parts_told {n fuel : Nat} {cs : List Value} (ih : ∀ t sh, shapeOf P n t = some sh → ∀ (cs : List Value) y, DataW.trod enc P W 0 spare true fuel t cs = some y → cs.length = P.cellsOf t ∧ ∃ xs, Told W cs xs sh) :
    ∀ (l : List (Nat × TypeId)) (acc : Nat) (shs : List Sh), contig P acc l cs.length = true → (l.mapM fun p => shapeOf P n p.2) = some shs →
      (∀ p ∈ l, ∃ y, DataW.trod enc P W 0 spare true fuel p.2 ((cs.drop p.1).take (P.cellsOf p.2)) = some y) → ∃ xs, Tolds W (cs.drop acc) xs shs
  | [], acc, shs, hc, hs, hy => by
    simp [contig] at hc
    simp at hs
    subst hs
    exact ⟨[], by rw [hc, List.drop_length]; exact ⟨.nil, fun _ h => by simp at h, rfl, rfl⟩⟩
  | (o, t) :: l, acc, shs, hc, hs, hy => by
    simp only [contig, Bool.and_eq_true, beq_iff_eq] at hc
    obtain ⟨rfl, hc⟩ := hc
    simp only [List.mapM_cons] at hs
    cases h1 : shapeOf P n t with
    | none => rw [h1] at hs; cases hs
    | some sh =>
      rw [h1] at hs
      cases h2 : (l.mapM fun p => shapeOf P n p.2) with
      | none => rw [h2] at hs; cases hs
      | some shs' =>
        rw [h2] at hs
        cases hs
        obtain ⟨y, h3⟩ := hy (o, t) List.mem_cons_self
        obtain ⟨hl, xs, hx⟩ := ih t sh h1 _ _ h3
        obtain ⟨zs, hz⟩ := parts_told ih l _ shs' hc h2 fun p hp => hy p (List.mem_cons_of_mem _ hp)
        refine ⟨xs ++ zs, ?_⟩
        have e : cs.drop o = (cs.drop o).take (P.cellsOf t) ++ cs.drop (o + P.cellsOf t) := by
          rw [← List.drop_drop, List.take_append_drop]
        rw [e]
        exact ⟨hx.rep.append hz.rep, fun c hc => by
          rcases List.mem_append.1 hc with h | h
          · exact hx.one c h
          · exact hz.one c h, cleans_append hx.cl hz.cl, xs, zs, rfl, hx.ok, hz.ok⟩
theorem cells_get {a : Addr} {n : Nat} {cs : List Value} (h : W.cells? 0 a n = some cs) : cs.length = n ∧ ∀ i (hi : i < cs.length), W.cell? (a.add i) = some cs[i] := by
  unfold World.cells? at h
  split at h
  · have hl := mapM_some_length h
    simp at hl
    refine ⟨hl, fun i hi => ?_⟩
    have := mapM_some_get h i i (List.getElem?_range (by omega))
    rw [this]
    exact List.getElem?_eq_getElem hi
  · cases h
def elemV (ag : Bool) (xs : List V) : V := if ag = true then .agg xs else xs.getD 0 .u
theorem one_cell : ∀ {sh : Sh} {xs : List V}, (∀ l, sh ≠ .seq l) → sh.ok xs → ∃ x, xs = [x] ∧ V.fits 1 false x = true ∧ x.cells = [x]
  | .n k, _, _, ⟨a, e⟩ => ⟨_, e, rfl, rfl⟩
  | .z, _, _, ⟨a, e⟩ => ⟨_, e, rfl, rfl⟩
  | .b, _, _, ⟨a, e⟩ => ⟨_, e, rfl, rfl⟩
  | .seq l, _, h, _ => absurd rfl (h l)
  | .sl es ag s, _, _, ⟨ys, e, _⟩ => ⟨_, e, rfl, rfl⟩
theorem shape_agg {n : Nat} {t : TypeId} {sh : Sh} (h : shapeOf P n t = some sh) : (aggT P t = true ∧ ∃ l, sh = .seq l) ∨ (aggT P t = false ∧ P.cellsOf t = P.cellsOf t ∧ ∀ l, sh ≠ .seq l) := by
  cases n with
  | zero => cases h
  | succ n =>
    unfold shapeOf at h
    unfold aggT
    split at h <;> rename_i hu
    · right; rw [hu]
      refine ⟨rfl, rfl, fun l e => ?_⟩
      subst e
      split at h <;> cases h
    · right; rw [hu]
      refine ⟨rfl, rfl, fun l e => ?_⟩
      subst e
      split at h
      · split at h
        · cases h
        · split at h <;> cases h
      · cases h
    · right; rw [hu]
      refine ⟨rfl, rfl, fun l e => ?_⟩
      subst e
      split at h
      · cases h
      · cases h' : shapeOf P n _ <;> rw [h'] at h <;> cases h
    · left; rw [hu]
      refine ⟨rfl, ?_⟩
      split at h
      · cases h' : ((fieldParts _).mapM fun p => shapeOf P n p.2) <;> rw [h'] at h <;> cases h
        exact ⟨_, rfl⟩
      · cases h
    · left; rw [hu]
      refine ⟨rfl, ?_⟩
      split at h
      · cases h' : ((arrParts P _ _).mapM fun p => shapeOf P n p.2) <;> rw [h'] at h <;> cases h
        exact ⟨_, rfl⟩
      · cases h
    · cases h
theorem elem_told {n : Nat} {t : TypeId} {sh : Sh} (h : shapeOf P n t = some sh) {cs : List Value} {xs : List V} (hl : cs.length = P.cellsOf t) (ht : Told W cs xs sh) :
    (elemV (aggT P t) xs).cells = xs ∧ V.fits (P.cellsOf t) (aggT P t) (elemV (aggT P t) xs) = true ∧ (elemV (aggT P t) xs).clean = true := by
  have hx := ht.rep.len
  rcases shape_agg h with ⟨ha, l, rfl⟩ | ⟨ha, _, hn⟩ <;> rw [ha] <;> simp only [elemV, if_true, Bool.false_eq_true, if_false]
  · exact ⟨rfl, by simp [V.fits]; omega, ht.cl⟩
  · obtain ⟨x, rfl, hf, hc⟩ := one_cell hn ht.ok
    have : P.cellsOf t = 1 := by simpa [hl] using hx
    rw [this]
    refine ⟨hc, hf, ?_⟩
    have := ht.cl
    simp only [cleans, Bool.and_true] at this
    exact this
theorem told_slice {n fuel : Nat} {e : TypeId} {s : Sh} (h1 : shapeOf P n e = some s) (h0 : P.cellsOf e ≠ 0)
    (ih : ∀ (cs : List Value) y, DataW.trod enc P W 0 spare true fuel e cs = some y → cs.length = P.cellsOf e ∧ ∃ xs, Told W cs xs s)
    {a : Addr} {len cap : Nat} (hl : len ≤ cap) (hm : cap ≤ maxLen)
    (he : ∀ i, i < len → ∃ y, (W.cells? 0 (a.add (i * P.cellsOf e)) (P.cellsOf e)).bind (DataW.trod enc P W 0 spare true fuel e) = some y) :
    ∃ xs, Told W [.slice (some a) len cap] xs (.sl (P.cellsOf e) (aggT P e) s) := by
  rcases Nat.eq_zero_or_pos len with hz | hpos
  · subst hz
    exact ⟨[.sl []], .cons (.sl0 _ _) .nil, fun c hc => by simp at hc; subst hc; rfl, rfl, [], rfl, fun _ h => by cases h⟩
  obtain ⟨S, hS⟩ : ∃ S, P.cellsOf e = S := ⟨_, rfl⟩
  have Sp : 0 < S := by omega
  have sp : a.spot = none := by
    obtain ⟨y, this⟩ := he 0 hpos
    cases hc : W.cells? 0 (a.add (0 * P.cellsOf e)) (P.cellsOf e) with
    | none => rw [hc] at this; cases this
    | some ci =>
      obtain ⟨c1, c2⟩ := cells_get hc
      have := c2 0 (by omega)
      rw [Nat.zero_mul] at this
      exact (cell_spot (x := a) (by simpa [Addr.add] using this)).1
  obtain ⟨bl0, o, sp'⟩ := a
  simp only at sp
  subst sp
  have each : ∀ i : Nat, ∃ p : List Value × List V, i < len → p.1.length = S ∧ (∀ j (hj : j < p.1.length), W.cell? ⟨bl0, o + (i * S + j), none⟩ = some p.1[j]) ∧ Told W p.1 p.2 s := fun i => by
    rcases Nat.lt_or_ge i len with hi | hi
    · obtain ⟨y, this⟩ := he i hi
      cases hc : W.cells? 0 (Addr.add ⟨bl0, o, none⟩ (i * P.cellsOf e)) (P.cellsOf e) with
      | none => rw [hc] at this; cases this
      | some ci =>
        rw [hc] at this
        obtain ⟨c1, c2⟩ := cells_get hc
        obtain ⟨c3, xs, c4⟩ := ih ci _ this
        refine ⟨(ci, xs), fun _ => ⟨by rw [← hS]; exact c3, fun j hj => ?_, c4⟩⟩
        rw [← c2 j hj, hS, add_off, add_off, Nat.add_assoc]
    · exact ⟨([], []), fun h => by omega⟩
  obtain ⟨f, hf⟩ := Classical.axiomOfChoice each
  let ys : List V := (List.range len).map fun i => elemV (aggT P e) (f i).2
  have ylen : ys.length = len := by simp [ys]
  have yget : ∀ i (hi : i < len), ys[i]'(by rw [ylen]; exact hi) = elemV (aggT P e) (f i).2 := fun i hi => by simp [ys]
  have yel : ∀ i, i < len → (elemV (aggT P e) (f i).2).cells = (f i).2 ∧ V.fits S (aggT P e) (elemV (aggT P e) (f i).2) = true ∧ (elemV (aggT P e) (f i).2).clean = true := fun i hi => by
    have := elem_told h1 (by rw [hS]; exact (hf i hi).1) (hf i hi).2.2
    rwa [hS] at this
  have ymem : ∀ y ∈ ys, ∃ i, i < len ∧ y = elemV (aggT P e) (f i).2 := fun y hy => by
    obtain ⟨i, hi, rfl⟩ := List.mem_map.1 hy
    exact ⟨i, List.mem_range.1 hi, rfl⟩
  have xlen : ∀ i, i < len → (f i).2.length = S := fun i hi => by
    have := (hf i hi).2.2.rep.len
    rw [← this]; exact (hf i hi).1
  have hu : ∀ y ∈ ys, y.cells.length = S := fun y hy => by
    obtain ⟨i, hi, rfl⟩ := ymem y hy
    rw [(yel i hi).1, xlen i hi]
  have flen : (flat ys).length = len * S := by rw [flat_uniform hu, ylen]
  have fget : ∀ i j (hi : i < len) (hj : j < S) (hk : i * S + j < (flat ys).length), (flat ys)[i * S + j] = (f i).2[j]'(by rw [xlen i hi]; exact hj) := fun i j hi hj hk => by
    have e1 := flat_elem hu i (by rw [ylen]; exact hi)
    rw [yget i hi, (yel i hi).1] at e1
    have e2 : (((flat ys).drop (i * S)).take S)[j]? = (f i).2[j]? := by rw [e1]
    rw [List.getElem?_take_of_lt hj, List.getElem?_drop, List.getElem?_eq_getElem hk, List.getElem?_eq_getElem (by rw [xlen i hi]; exact hj)] at e2
    injection e2
  have hsplit : ∀ k, k < (flat ys).length → k / S < len ∧ k % S < S ∧ k = k / S * S + k % S := fun k hk => by
    rw [flen] at hk
    refine ⟨Nat.div_lt_of_lt_mul (by rw [Nat.mul_comm]; exact hk), Nat.mod_lt _ Sp, ?_⟩
    rw [Nat.mul_comm]; exact (Nat.div_add_mod k S).symm
  have rp := Rep.sl (X := base W) bl0 o cap S ys (fun k => (f (k / S)).1.getD (k % S) (.bool false)) (by omega) hm
    ((cleans_iff _).2 fun y hy => by obtain ⟨i, hi, rfl⟩ := ymem y hy; exact (yel i hi).2.2) hu
    (fun k hk => by
      obtain ⟨k1, k2, k3⟩ := hsplit k hk
      obtain ⟨f1, f2, f3⟩ := hf _ k1
      have hj : k % S < (f (k / S)).1.length := by rw [f1]; exact k2
      have c := f2 _ hj
      have e : (f (k / S)).1.getD (k % S) (.bool false) = (f (k / S)).1[k % S] := by simp [List.getD, hj]
      rw [← k3] at c
      rw [e]
      exact ⟨(cell_spot c).2, c, f3.one _ (List.getElem_mem hj)⟩)
    (fun k hk => by
      obtain ⟨k1, k2, k3⟩ := hsplit k hk
      obtain ⟨f1, f2, f3⟩ := hf _ k1
      have hj : k % S < (f (k / S)).1.length := by rw [f1]; exact k2
      have e : (f (k / S)).1.getD (k % S) (.bool false) = (f (k / S)).1[k % S] := by simp [List.getD, hj]
      have hk' : k / S * S + k % S < (flat ys).length := by rw [← k3]; exact hk
      have e2 := fget (k / S) (k % S) k1 k2 hk'
      have e3 : (flat ys)[k] = (flat ys)[k / S * S + k % S] := by congr 1
      rw [e, e3, e2]
      exact f3.rep.get _ hj (by rw [xlen _ k1]; exact k2))
  rw [ylen] at rp
  refine ⟨[.sl ys], .cons rp .nil, fun c hc => by simp at hc; subst hc; rfl, rfl, ys, rfl, fun y hy => ?_⟩
  obtain ⟨i, hi, rfl⟩ := ymem y hy
  rw [hS]
  refine ⟨(yel i hi).2.1, ?_⟩
  rw [(yel i hi).1]
  exact (hf i hi).2.2.ok
theorem told_all : ∀ (n : Nat) (t : TypeId) (sh : Sh), shapeOf P n t = some sh → ∀ (fuel : Nat) (cs : List Value) y, DataW.trod enc P W 0 spare true fuel t cs = some y → cs.length = P.cellsOf t ∧ ∃ xs, Told W cs xs sh
  | 0, t, sh, h, _, _, _, _ => by cases h
  | n + 1, t, sh, h, 0, cs, y, hy => by cases hy
  | n + 1, t, sh, h, fuel + 1, cs, y, hy => by
    unfold shapeOf at h
    cases hu : P.underlying t with
    | none => rw [hu] at h; cases h
    | some d =>
      rw [hu] at h
      cases d with
      | bool =>
        obtain ⟨b, rfl, _⟩ := DataW.trod_bool hu hy
        simp only at h
        split at h
        · rename_i hc; cases h
          exact ⟨hc.symm, [.b b], .cons (.b b) .nil, fun c hc => by simp at hc; subst hc; rfl, rfl, b, rfl⟩
        · cases h
      | int k =>
        obtain ⟨m, rfl, _, hw⟩ := DataW.trod_int hu hy
        simp only at h
        split at h
        · rename_i hc
          refine ⟨hc.symm, ?_⟩
          split at h
          · rename_i hk; subst hk; cases h
            exact ⟨[.z m], .cons (rep_i64 hw) .nil, fun c hc => by simp at hc; subst hc; rfl, rfl, m, rfl⟩
          · split at h
            · cases h
            · rename_i hs; cases h
              exact ⟨[.n k m.toNat], .cons (rep_nat (by simpa using hs) hw) .nil, fun c hc => by simp at hc; subst hc; rfl, rfl, m.toNat, rfl⟩
        · cases h
      | slice e =>
        simp only at h
        split at h
        · cases h
        · rename_i hc
          have hc0 : P.cellsOf e ≠ 0 := fun e => hc (.inl e)
          have hc1 : P.cellsOf t = 1 := Decidable.not_not.1 fun e => hc (.inr e)
          cases h1 : shapeOf P n e with
          | none => rw [h1] at h; cases h
          | some s =>
            rw [h1] at h
            cases h
            refine ⟨?_, ?_⟩
            · rw [hc1]
              rcases DataW.trod_slice hu hy with ⟨rfl, _⟩ | ⟨a, len, cap, elems, rest, m, _, rfl, _⟩ <;> rfl
            · rcases DataW.trod_slice hu hy with ⟨rfl, _⟩ | ⟨a, len, cap, elems, rest, m, hm, rfl, _, _, h2, h3, h4, h5, _⟩
              · exact ⟨[.sl []], .cons (.sl0 _ _) .nil, fun c hc => by simp at hc; subst hc; rfl, rfl, [], rfl, fun _ h => by cases h⟩
              · injection hm with hm
                subst hm
                exact told_slice h1 hc0 (fun cs y => told_all n e s h1 fuel cs y) h2 h3 fun i hi => ⟨elems[i], by rw [h5 i hi]; exact List.getElem?_eq_getElem (by omega)⟩
      | struct fs =>
        simp only at h
        split at h
        · rename_i hc
          cases h1 : ((fieldParts fs.toList).mapM fun p => shapeOf P n p.2) with
          | none => rw [h1] at h; cases h
          | some shs =>
            rw [h1] at h
            cases h
            obtain ⟨xs, m, hm, _, hl, hz, hg⟩ := DataW.trod_struct hu hy
            injection hm with hm
            subst hm
            rw [← hl] at hc
            obtain ⟨zs, hzs⟩ := parts_told (cs := cs) (fun t sh h => told_all n t sh h fuel) (fieldParts fs.toList) 0 shs hc h1 fun p hp => by
              obtain ⟨f, hf, rfl⟩ := List.mem_map.1 hp
              obtain ⟨i, hi, e⟩ := List.mem_iff_getElem.1 hf
              have hi' : i < fs.size := by simpa using hi
              have := hg i f (by rw [Array.getElem?_eq_getElem hi']; simpa using e)
              rw [List.getElem?_eq_getElem (by omega)] at this
              exact ⟨_, this⟩
            exact ⟨hl, zs, hzs.rep, hzs.one, hzs.cl, hzs.ok⟩
        · cases h
      | array m e =>
        simp only at h
        split at h
        · rename_i hc
          cases h1 : ((arrParts P m e).mapM fun p => shapeOf P n p.2) with
          | none => rw [h1] at h; cases h
          | some shs =>
            rw [h1] at h
            cases h
            obtain ⟨xs, q, hm, _, hl, hz, hg⟩ := DataW.trod_array hu hy
            injection hm with hm
            subst hm
            rw [← hl] at hc
            obtain ⟨zs, hzs⟩ := parts_told (cs := cs) (fun t sh h => told_all n t sh h fuel) (arrParts P m e) 0 shs hc h1 fun p hp => by
              obtain ⟨i, hi, rfl⟩ := List.mem_map.1 hp
              have hi' : i < m := List.mem_range.1 hi
              have := hg i hi'
              rw [List.getElem?_eq_getElem (by omega)] at this
              exact ⟨_, this⟩
            exact ⟨hl, zs, hzs.rep, hzs.one, hzs.cl, hzs.ok⟩
        · cases h
      | _ => cases h
theorem open_any {n : Nat} {t : TypeId} {sh : Sh} (h : shapeOf P n t = some sh) {r : Go.Reach} {b0 : Nat} {v : Value} {d : DataW H} {p : List MemPlace} (hv : Value.okWide P W r b0 t v) (hd : DataW.Trod enc P W 0 spare true t v d p) :
    ∃ y : V, Rep (base W) v y ∧ y.clean = true ∧ V.fits (P.cellsOf t) (aggT P t) y = true ∧ sh.ok y.cells := by
  obtain ⟨fuel, hf⟩ := hd
  obtain ⟨hl, xs, hx⟩ := told_all n t sh h fuel _ _ hf
  obtain ⟨e1, e2, e3⟩ := elem_told h hl hx
  refine ⟨elemV (aggT P t) xs, ?_, e3, e2, by rw [e1]; exact hx.ok⟩
  have hxl := hx.rep.len
  rcases shape_agg h with ⟨ha, l, rfl⟩ | ⟨ha, _, hn⟩ <;> rw [ha] <;> simp only [elemV, if_true, Bool.false_eq_true, if_false]
  · have : ∃ cs, v = .agg cs := by
      unfold aggT at ha
      unfold Value.okWide at hv
      split at ha <;> rename_i hu
      · rw [hu] at hv; obtain ⟨cs, e, _⟩ := hv; exact ⟨cs, e⟩
      · rw [hu] at hv; obtain ⟨cs, e, _⟩ := hv; exact ⟨cs, e⟩
      · cases ha
    obtain ⟨cs, rfl⟩ := this
    refine .agg cs xs (by simpa [Value.cells] using hxl) (fun v hv => hx.one v (by simpa [Value.cells] using hv)) fun k h1 h2 => ?_
    have := hx.rep.get k (by simpa [Value.cells] using h2) h1
    simpa [Value.cells] using this
  · obtain ⟨x, rfl, _, _⟩ := one_cell hn hx.ok
    have hvc : v.cells.toList = [v] := by
      cases n with
      | zero => cases h
      | succ n =>
        unfold shapeOf at h
        unfold aggT at ha
        split at h <;> rename_i hu
        · obtain ⟨b, rfl⟩ := okWide_bool hu hv; rfl
        · obtain ⟨m, rfl⟩ := okWide_int hu hv; rfl
        · obtain ⟨a, b, c, rfl⟩ := okWide_slice hu hv; rfl
        · rw [hu] at ha; cases ha
        · rw [hu] at ha; cases ha
        · cases h
    rw [hvc] at hx
    have := hx.rep.get 0 (by simp) (by simp)
    simpa using this
end
def Cov {α : Type} (es : Nat) (ag : Bool) (s : Sh) (A : Ty α) : Prop := ∀ y : V, y.wf → V.fits es ag y = true → s.ok y.cells → ∃ a, y = A.enc a
theorem fits_one {es : Nat} {y : V} (h : V.fits es false y = true) : y.cells = [y] := by
  cases y <;> simp_all [V.fits, V.cells]
theorem fits_agg {es : Nat} {y : V} (h : V.fits es true y = true) (hz : 0 < es := by decide) : ∃ cs, y = .agg cs ∧ cs.length = es := by
  cases y <;> simp [V.fits] at h
  · exact ⟨_, rfl, h⟩
  · omega
theorem cov_n (k : IntKind) : Cov 1 false (.n k) (tN k) := fun y _ hf h => by
  rw [fits_one hf] at h
  obtain ⟨a, e⟩ := h
  injection e with e
  exact ⟨a, e⟩
theorem cov_z : Cov 1 false .z tZ := fun y _ hf h => by
  rw [fits_one hf] at h
  obtain ⟨a, e⟩ := h
  injection e with e
  exact ⟨a, e⟩
theorem cov_b : Cov 1 false .b tB := fun y _ hf h => by
  rw [fits_one hf] at h
  obtain ⟨a, e⟩ := h
  injection e with e
  exact ⟨a, e⟩
theorem cov_sl {α : Type} {es : Nat} {ag : Bool} {s : Sh} {A : Ty α} (c : Cov es ag s A) : Cov 1 false (.sl es ag s) (tL A) := fun y hw hf h => by
  rw [fits_one hf] at h
  obtain ⟨ys, e, hy⟩ := h
  injection e with e
  subst e
  have hw' := (wfs_iff _).1 hw.2
  have key : ∀ ys : List V, (∀ y ∈ ys, y.wf ∧ V.fits es ag y = true ∧ s.ok y.cells) → ∃ l, ys = els A.enc l := fun ys h => by
    induction ys with
    | nil => exact ⟨[], rfl⟩
    | cons y ys ih =>
      obtain ⟨l, hl⟩ := ih fun z hz => h z (List.mem_cons_of_mem _ hz)
      obtain ⟨h1, h2, h3⟩ := h y List.mem_cons_self
      obtain ⟨a, ha⟩ := c y h1 h2 h3
      exact ⟨a :: l, by rw [hl, ha]; rfl⟩
  obtain ⟨l, hl⟩ := key ys fun y h => ⟨hw' y h, hy y h⟩
  exact ⟨l, by rw [hl]; rfl⟩
end Go.Proofs.YteomkgcepiecjaaGreat.I
