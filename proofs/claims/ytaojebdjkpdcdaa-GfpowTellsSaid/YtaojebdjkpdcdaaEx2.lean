/- Every operation. -/
import Derived.Test.YtaojebdjkpdcdaaApp
namespace Go.Proofs.Ytaojebdjkpdcdaa.I
open Go
set_option linter.unusedVariables false
set_option linter.unusedSimpArgs false

section
variable {P : Program}

theorem lenV_sound {X : Lay} {t : TypeId} {k : TK} {x : V} {K : Nat → Prop} {v : Value} {ty : TypeId} (ht : ∃ d, P.underlying t = some d ∧ k.fits P d) (h : @lenV k x ⟨K⟩) (hx : Rep X v x) :
    ∃ n, K n ∧ n ≤ maxLen ∧ (Builtin.len_ #[t] ty #[v]).run P X.w = .ok (.int .i64 n) X.w := by
  obtain ⟨d, hd, hf⟩ := ht
  have sl : k.isSl = true → ∃ e, P.underlying t = some (.slice e) := fun h => by
    cases k <;> simp [TK.isSl] at h
    simp only [TK.fits] at hf
    exact ⟨_, by rw [hd, hf]⟩
  unfold lenV at h
  split at h <;> first | exact h.elim | skip
  all_goals obtain ⟨hk, h⟩ := h
  case h_7 =>
    cases hx with
    | s x hm =>
      cases k <;> simp [TK.isStr] at hk
      simp only [TK.fits] at hf; subst hf
      exact ⟨_, h, hm, by simp [Builtin.len_, run_underlying hd, goInt]⟩
  all_goals
    obtain ⟨e, hu⟩ := sl hk
    cases hx
  case h_1.sl0 => exact ⟨_, h, Nat.zero_le _, by simp [Builtin.len_, run_underlying hu, goInt]⟩
  case h_1.sl => exact ⟨_, h, by omega, by simp [Builtin.len_, run_underlying hu, goInt]⟩
  case h_2.lit => exact ⟨_, h, by assumption, by simp [Builtin.len_, run_underlying hu, goInt]⟩
  case h_3.nils => exact ⟨_, h, Nat.zero_le _, by simp [Builtin.len_, run_underlying hu, goInt]⟩
  case h_4.row => exact ⟨_, h, by omega, by simp [Builtin.len_, run_underlying hu, goInt]⟩
  case h_5.arr => exact ⟨_, h, by assumption, by simp [Builtin.len_, run_underlying hu, goInt]⟩
  case h_6.ow => exact ⟨_, h, by omega, by simp [Builtin.len_, run_underlying hu, goInt]⟩

theorem foldMx_sound {X : Lay} (mx : Bool) : ∀ {l : List V} {vs : List Value} {x r : V} {v : Value}, foldMx mx x l = some r → Rep X v x → RepL X vs l →
    ∃ u, Rep X u r ∧ (vs.foldlM (if mx then Builtin.max2 else Builtin.min2) v).run P X.w = .ok u X.w
  | [], vs, x, r, v, h, hx, hl => by
    cases hl
    refine ⟨v, ?_, rfl⟩
    unfold foldMx at h
    split at h <;> simp_all
  | y :: l, vs, x, r, v, h, hx, hl => by
    cases hl with
    | @cons u _ us _ hy hl =>
    unfold foldMx at h
    split at h
    · rename_i he; cases he
    · rename_i a b l' he
      cases he
      cases hx with | z _ h1 =>
      cases hy with | z _ h2 =>
      obtain ⟨u, hu, hrun⟩ := foldMx_sound mx h (v := .int .i64 (if mx then max a b else min a b)) (.z _ (by unfold i64ok at *; split <;> omega)) hl
      refine ⟨u, hu, ?_⟩
      rw [List.foldlM_cons, Sem.run_bind]
      cases mx with
      | true =>
        have e : (if b > a then b else a) = max a b := by split <;> omega
        simp only [if_true] at hrun ⊢
        simp [Builtin.max2, e, hrun]
      | false =>
        have e : (if b < a then b else a) = min a b := by split <;> omega
        simp only [Bool.false_eq_true, if_false] at hrun ⊢
        simp [Builtin.min2, e]
        simpa using hrun
    · rename_i he; cases he
    · rename_i k a k' b l' he
      cases he
      split at h
      · rename_i hk; subst hk
        cases hx with | n _ _ h1 h2 =>
        cases hy with | n _ _ h3 h4 =>
        obtain ⟨u, hu, hrun⟩ := foldMx_sound mx h (v := .int k (if mx then max a b else min a b : Nat)) (.n _ _ h1 (by split <;> omega)) hl
        refine ⟨u, hu, ?_⟩
        rw [List.foldlM_cons, Sem.run_bind]
        cases mx with
        | true =>
          have e : (if (b : Int) > a then (b : Int) else a) = ((max a b : Nat) : Int) := by split <;> omega
          simp only [if_true] at hrun ⊢
          simp only [Builtin.max2, e]
          simpa using hrun
        | false =>
          have e : (if (b : Int) < a then (b : Int) else a) = ((min a b : Nat) : Int) := by split <;> omega
          simp only [Bool.false_eq_true, if_false] at hrun ⊢
          simp only [Builtin.min2, e]
          simpa using hrun
      · cases h
    · cases h

/-! ### calls of every kind -/

theorem buildElems_flat {es : Nat} {ag : Bool} : ∀ (ps : List (Nat × V)) (l : List V), uni es ag l = true → (∀ p ∈ ps, p.1 < l.length ∧ p.2.fits es ag = true) →
    flat (buildElems l ps) = fill (flat l) (ps.map fun p => (p.1 * es, p.2)) ∧ (buildElems l ps).length = l.length ∧ uni es ag (buildElems l ps) = true
  | [], l, hu, _ => ⟨rfl, rfl, hu⟩
  | (j, v) :: ps, l, hu, hp => by
    obtain ⟨h1, h2⟩ := hp (j, v) (by simp)
    have hu' : uni es ag (l.set j v) = true := uni_iff.2 fun z hz => by
      rcases List.mem_or_eq_of_mem_set hz with hz | rfl
      · exact uni_iff.1 hu z hz
      · exact h2
    obtain ⟨e1, e2, e3⟩ := buildElems_flat ps (l.set j v) hu' fun p hpp => by simpa using hp p (by simp [hpp])
    refine ⟨?_, by simpa [buildElems] using e2, by simpa [buildElems] using e3⟩
    simp only [buildElems, List.map_cons, fill]
    rw [e1, flat_set (uni_len hu) j h1 _ (fits_spec h2).2]

theorem buildElems_clean : ∀ (ps : List (Nat × V)) (l : List V), cleans l = true → (∀ p ∈ ps, p.2.clean = true) → cleans (buildElems l ps) = true
  | [], l, h, _ => h
  | (j, v) :: ps, l, h, hp => by
    simp only [buildElems]
    refine buildElems_clean ps _ ((cleans_iff _).2 fun z hz => ?_) fun p hpp => hp p (by simp [hpp])
    rcases List.mem_or_eq_of_mem_set hz with hz | rfl
    · exact (cleans_iff _).1 h z hz
    · exact hp (j, z) (by simp)

theorem buildSlice_sound {cx : Cx} (C : COk P cx) {B : Base} {X : Lay} {own : Nat → Prop} {st : St} {a : Act} (R : Rel B X own st a) {t e : TypeId} {ei : TI} (ht : P.underlying t = some (.slice e)) (hT : TOk P e ei)
    {len : Nat} {js : List Nat} {vs : List Value} {ys : List V} (hj : js.length = ys.length) (hv : RepL X vs ys) (hcl : cleans ys = true) (hu : uni ei.size ei.isAgg ys = true) (hl : ∀ j ∈ js, j < len) (hm : len * ei.size ≤ 16777216) :
    ∃ X' r, X.Le X' ∧ (Instr.buildSlice t len (js.zip vs).toArray).run P X.w = .ok r X'.w ∧ Rel B X' own st a ∧ (len ≤ maxLen → Rep X' r (.lit (buildElems (List.replicate len ei.zero) (js.zip ys)))) := by
  obtain ⟨inf, z, d, g1, g2, g3, g4, g5, g6, g7, g8, g9⟩ := hT.ex
  obtain ⟨m1, m2⟩ := made_cells hT X g1 g4 len len (Nat.le_refl _)
  have hur : uni ei.size ei.isAgg (List.replicate len ei.zero) = true := uni_iff.2 fun x hx => by rw [List.eq_of_mem_replicate hx]; exact hT.ft
  have hps : ∀ p ∈ js.zip ys, p.1 < (List.replicate len ei.zero).length ∧ p.2.fits ei.size ei.isAgg = true := fun p hp => by
    obtain ⟨h1, h2⟩ := List.of_mem_zip hp
    exact ⟨by simpa using hl _ h1, uni_iff.1 hu _ h2⟩
  obtain ⟨b1, b2, b3⟩ := buildElems_flat (es := ei.size) (ag := ei.isAgg) (js.zip ys) (List.replicate len ei.zero) hur hps
  have hfl : (flat (List.replicate len ei.zero)).length = len * ei.size := by rw [flat_uniform (uni_len hur), List.length_replicate]
  have hvl := hv.len
  obtain ⟨cs', f1, f2, f3⟩ := fill_sound (X := X) (place := fun i => some (i * ei.size, ei.size)) (js.zip vs) ((js.zip ys).map fun p => (p.1 * ei.size, p.2)) (madeCells z.cells (len * ei.size)) (flat (List.replicate len ei.zero))
    (by simp [hvl]) (fun k k1 k2 => by
      simp only [List.length_zip, List.length_map] at k1 k2
      refine ⟨ei.size, ei.isAgg, by simp, ?_, ?_, ?_⟩
      · simp only [List.getElem_map, List.getElem_zip]; exact uni_iff.1 hu _ (List.getElem_mem _)
      · simp only [List.getElem_map, List.getElem_zip]; exact hv.get k (by omega) (by omega)
      · simp only [List.getElem_map, List.getElem_zip, hfl]
        have := hl _ (List.getElem_mem (show k < js.length by omega))
        have := Nat.mul_le_mul_right ei.size (show js[k] + 1 ≤ len by omega)
        rw [Nat.succ_mul] at this; exact this)
    (.of_get (by simp [m1, hfl]) fun k k1 k2 => by simpa using (m2 k k2 (by simpa using k1)).1)
    (fun u hu => by
      obtain ⟨k, hk, rfl⟩ := Array.mem_iff_getElem.1 hu
      exact (m2 k (by rw [hfl, ← m1]; exact hk) hk).2)
  have hsz : cs'.size = len * ei.size := by have := f2.len; rw [← b1, flat_uniform (uni_len b3), b2, List.length_replicate] at this; simpa using this
  obtain ⟨le, R'⟩ := R.block (.cells cs' e) (len * ei.size)
  refine ⟨_, .slice (some ⟨X.w.heap.size, 0, none⟩) len len, le, ?_, R', fun hlm => ?_⟩
  · have hn : ¬ (16777216 < len * ei.size) := by omega
    by_cases h0 : len * ei.size = 0
    · have e0 : madeCells z.cells (len * ei.size) = (Array.range 0).map fun i => (#[] : Array Value)[i % (#[] : Array Value).size]! := by rw [h0]; simp [madeCells]
      rw [e0] at f1
      simp only [Array.range_zero'] at f1
      simp [Instr.buildSlice, run_underlying ht, hT.size, hn, h0, Array.range_zero', newRow, Lay.block]
      simp at f1
      simp [f1]
    · simp only [madeCells] at f1
      simp [Instr.buildSlice, run_underlying ht, hT.size, hn, h0, run_zeroValue' g1 g4, f1, newRow, Lay.block]
  · have hlen : (buildElems (List.replicate len ei.zero) (js.zip ys)).length = len := by rw [b2, List.length_replicate]
    have hfl2 := flat_uniform (uni_len b3)
    rw [hlen] at hfl2
    have := Rep.lit (X := X.block (.cells cs' e) (len * ei.size)) X.w.heap.size 0 ei.size (buildElems (List.replicate len ei.zero) (js.zip ys)) (fun k => cs'.getD k undef) (by omega)
      (buildElems_clean _ _ ((cleans_iff _).2 fun x hx => by rw [List.eq_of_mem_replicate hx]; exact hT.cl) fun p hp => (cleans_iff _).1 hcl _ (List.of_mem_zip hp).2) (uni_len b3)
      (fun k hk => by
        have hk' : k < cs'.size := by omega
        have ek : cs'.getD k undef = cs'[k] := by simp [Array.getD, hk']
        simp only [ek, Nat.zero_add]
        refine ⟨.inr ⟨rfl, by omega⟩, ?_, f3 _ (Array.getElem_mem hk')⟩
        show (X.w.alloc (.cells cs' e)).cell? ⟨X.w.heap.size, k, none⟩ = _
        rw [cell_of_row _ _ _ cs' e (0, 0) (heap_alloc_new X.w _)]
        simp [hk'])
      (fun k hk => by
        have hk' : k < cs'.size := by omega
        have ek : cs'.getD k undef = cs'[k] := by simp [Array.getD, hk']
        simp only [ek]
        have := f2.get k (by simpa using hk') (by rw [← b1]; exact hk)
        simp only [← b1] at this
        exact Rep.mono le (by simpa using this))
    rwa [hlen] at this

theorem RepL.of_arr {X : Lay} {us : Array Value} {xs : List V} (hz : us.size = xs.length) (h : ∀ k (h : k < xs.length) (h' : k < us.size), Rep X us[k] xs[k]) : RepL X us.toList xs :=
  .of_get (by simpa using hz) fun k k1 k2 => by simpa using h k k2 (by simpa using k1)

theorem opds_repL {B : Base} {X : Lay} {own : Nat → Prop} {st : St} {a : Act} (R : Rel B X own st a) {l : Array Operand} (h : l.all goodO = true) : RepL X (l.map a.eval).toList (l.toList.map st.opd) := by
  obtain ⟨h1, h2⟩ := map_repL R h
  exact .of_arr h1 h2

theorem exCall_sound {cx : Cx} (C : COk P cx) {B : Base} (Y : ∀ l c, cx.y = some (l, c) → YOk P B l c) {o : Oper} {st : St} {K : St → Prop} {c : Call} (hop : o.op = .call c) (h : @exCall cx st o.dst c.callee (c.args.toList.map st.opd) c.argTypes.toList ⟨K⟩)
    (hg : goodOp o.op = true) : OStep P B o st K := by
  rw [hop] at hg
  simp only [goodOp, Bool.and_eq_true] at hg
  intro X own a R F m Q hF
  have hargs := opds_repL R hg.1
  unfold exCall at h
  refine wpIn_of_upon hF (fun c' h' => by rw [hop] at h'; cases h') ?_
  split at h <;> first | exact h.elim | skip
  · rename_i f hcal
    rw [hcal] at hg
    have hf := R.opd hg.2
    split at h <;> first | exact h.elim | skip
    rotate_left 1
    · rename_i l hfn
      rw [hfn] at hf
      obtain ⟨p, hp, hl, h⟩ := so_inv h
      obtain ⟨l', cy⟩ := p
      simp only at hl h
      subst hl
      have hev : a.eval f = .func (.yield l) #[] #[] := by
        generalize a.eval f = v at hf
        cases hf with
        | fn _ vs _ us _ z1 z2 h1 h2 =>
          have e1 : vs = #[] := by simpa using z1
          have e2 : us = #[] := by simpa using z2
          rw [e1, e2]
      obtain ⟨r, hr1, hr2, hr3⟩ := yield_sound R (Y l cy hp) h hargs
      have e : (execOp a.eval o).run P X.w = .ok (.round l r.fn ((r.params.zip (c.args.map a.eval)).foldl (fun tmps (t, a) => tmps.setIfInBounds t a) r.tmps) r.assign r.body) X.w := by
        have := run_yield (P := P) (args := c.args.map a.eval) hr1 (by simpa using hr2)
        simp [execOp, hop, resolve, hcal, Deferred.ofValue, hev, invoke, this]
      rw [e, Oper.uponIn_round]
      have ea : (c.args.map a.eval).toList.toArray = c.args.map a.eval := by apply Array.ext'; simp
      rw [ea] at hr3
      refine ⟨fun hh => by rw [hF.depth] at hh; simp at hh, (hr3 F (m - 1) hF).mono ?_⟩
      rintro e w' ⟨v, rfl, hA⟩
      exact hA
    rename_i g as bs hfn
    rw [hfn] at hf
    have : ∃ us ws, a.eval f = .func (.func g) us ws ∧ RepL X us.toList as ∧ RepL X ws.toList bs := by
      generalize a.eval f = v at hf
      cases hf with
      | fn _ vs _ us _ z1 z2 h1 h2 => exact ⟨vs, us, rfl, .of_arr z1 h1, .of_arr z2 h2⟩
    obtain ⟨us, ws, hev, r1, r2⟩ := this
    have ea : us ++ c.args.map a.eval ++ ws = (us.toList ++ (c.args.map a.eval).toList ++ ws.toList).toArray := by
      apply Array.ext'; simp
    rcases call_sound C R h ((r1.append hargs).append r2) with ⟨hrun, hcalls⟩ | ⟨v, hrun, hA⟩
    rotate_left 1
    · have e : (execOp a.eval o).run P X.w = .ok (.value v) X.w := by
        rw [← ea, Array.append_assoc] at hrun
        simp [execOp, hop, resolve, hcal, Deferred.ofValue, hev, invoke, hrun]
      rw [e, Oper.uponIn_value]
      exact hA
    have e : (execOp a.eval o).run P X.w = .ok (.enter g (us ++ c.args.map a.eval ++ ws)) X.w := by
      simp [execOp, hop, resolve, hcal, Deferred.ofValue, hev, invoke, hrun]
    rw [e, Oper.uponIn_enter]
    rw [ea]
    refine ⟨fun hh => by rw [hF.depth] at hh; simp at hh, hF.calls (Calls.mono hcalls ?_)⟩
    rintro e w' ⟨v, rfl, hA⟩
    exact hA
  · rename_i hcal
    split at h <;> first | exact h.elim | skip
    rename_i x t he1 he2
    replace h := ti_inv h; obtain ⟨i, hi, h⟩ := h
    rw [he1] at hargs
    obtain ⟨v, hv, hx⟩ : ∃ v, c.args.map a.eval = #[v] ∧ Rep X v x := by
      generalize hl : (c.args.map a.eval).toList = l at hargs
      cases hargs with | cons hx hn =>
      cases hn
      exact ⟨_, by apply Array.ext'; simpa using hl, hx⟩
    have ht : c.argTypes = #[t] := by apply Array.ext'; simpa using he2
    obtain ⟨n, hK, hn, hrun⟩ := lenV_sound (ty := o.type) (C.und hi) h hx
    have e : (execOp a.eval o).run P X.w = .ok (.value (.int .i64 n)) X.w := by
      simp [execOp, hop, resolve, hcal, invoke, builtin, hv, ht, hrun]
    rw [e, Oper.uponIn_value]
    exact ⟨_, X, own, hK, rfl, R.set o.dst (.z _ (by unfold i64ok; simp only [maxLen] at hn; omega))⟩
  · rename_i hcal
    split at h <;> first | exact h.elim | skip
    rename_i x y t u he1 he2
    replace h := ti_inv h; obtain ⟨ui, hui, hsl, h⟩ := h
    rw [he1] at hargs
    obtain ⟨v, v', hv, hx, hy⟩ : ∃ v v', c.args.map a.eval = #[v, v'] ∧ Rep X v x ∧ Rep X v' y := by
      generalize hl : (c.args.map a.eval).toList = l at hargs
      cases hargs with | cons hx hn =>
      cases hn with | cons hy hn =>
      cases hn
      exact ⟨_, _, by apply Array.ext'; simpa using hl, hx, hy⟩
    have ht : c.argTypes = #[t, u] := by apply Array.ext'; simpa using he2
    obtain ⟨eu, hu⟩ : ∃ eu, P.underlying u = some (.slice eu) := by
      cases hk : ui.k <;> simp [TK.isSl, hk] at hsl
      exact ⟨_, C.slice hui hk⟩
    obtain ⟨st', X', own', r, hK, hrun, R'⟩ := append_sound (ty := o.type) C R hu h hx hy
    have e : (execOp a.eval o).run P X.w = .ok (.value r) X'.w := by
      simp [execOp, hop, resolve, hcal, invoke, builtin, hv, ht, hrun]
    rw [e, Oper.uponIn_value]
    exact ⟨_, X', own', hK, rfl, R'⟩
  · rename_i hcal
    split at h <;> first | exact h.elim | skip
    rename_i x l he1
    obtain ⟨r, hr, h⟩ := so_inv h
    rw [he1] at hargs
    generalize hl : (c.args.map a.eval).toList = vs at hargs
    cases hargs with | @cons v _ vs _ hx hn =>
    obtain ⟨u, hu, hrun⟩ := foldMx_sound (P := P) true hr hx hn
    have hl' : (c.args.map a.eval) = (v :: vs).toArray := by apply Array.ext'; simpa using hl
    have e : (execOp a.eval o).run P X.w = .ok (.value u) X.w := by
      simp only [if_true] at hrun
      simp [execOp, hop, resolve, hcal, invoke, builtin, hl', Builtin.max_, hrun]
    rw [e, Oper.uponIn_value]
    exact ⟨_, X, own, h, rfl, R.set o.dst hu⟩
  · rename_i hcal
    split at h <;> first | exact h.elim | skip
    rename_i x l he1
    obtain ⟨r, hr, h⟩ := so_inv h
    rw [he1] at hargs
    generalize hl : (c.args.map a.eval).toList = vs at hargs
    cases hargs with | @cons v _ vs _ hx hn =>
    obtain ⟨u, hu, hrun⟩ := foldMx_sound (P := P) false hr hx hn
    have hl' : (c.args.map a.eval) = (v :: vs).toArray := by apply Array.ext'; simpa using hl
    have e : (execOp a.eval o).run P X.w = .ok (.value u) X.w := by
      simp only [Bool.false_eq_true, if_false] at hrun
      simp [execOp, hop, resolve, hcal, invoke, builtin, hl', Builtin.min_, hrun]
    rw [e, Oper.uponIn_value]
    exact ⟨_, X, own, h, rfl, R.set o.dst hu⟩

theorem ex_sound {cx : Cx} (C : COk P cx) {B : Base} (Y : ∀ l c, cx.y = some (l, c) → YOk P B l c) {o : Oper} {st : St} {K : St → Prop} (h : @ex cx st o.dst o.op ⟨K⟩) (hg : goodOp o.op = true) : OStep P B o st K := by
  unfold ex at h
  split at h
  · rename_i c hop
    exact exCall_sound C Y hop h hg
  · rename_i t len ps hop
    rw [hop] at hg
    simp only [goodOp] at hg
    refine Step.o (fun c' h' => by rw [hop] at h'; cases h') fun X own a R => ?_
    replace h := ti_inv h; obtain ⟨i, hi, h⟩ := h
    split at h <;> first | exact h.elim | skip
    rename_i e hk
    replace h := ti_inv h; obtain ⟨ei, hei, h⟩ := h
    have hgo : ∀ p ∈ ps.toList, goodO p.2 = true := fun p hp => by
      rw [Array.all_eq_true'] at hg; exact hg p (Array.mem_toList_iff.1 hp)
    have hvs : RepL X (ps.toList.map fun p => a.eval p.2) (ps.toList.map fun p => st.opd p.2) := by
      generalize ps.toList = l at hgo
      induction l with
      | nil => exact .nil
      | cons p l ih => exact .cons (R.opd (hgo p (by simp))) (ih fun q hq => hgo q (by simp [hq]))
    obtain ⟨st', Y, ys, ⟨⟨hu, hall, hm, hmm⟩, h⟩, le, ew, R', hys, hcl, e1, e2⟩ := gives_sound R h hvs
    have hl : ∀ j ∈ ps.toList.map (·.1), j < len := fun j hj => by
      obtain ⟨p, hp, rfl⟩ := List.mem_map.1 hj
      have := List.all_eq_true.1 hall p hp
      simpa using this
    obtain ⟨X', r, le', hrun, R'', hrep⟩ := buildSlice_sound C R' (C.slice hi hk) (C.T _ _ hei) (by have := hys.len; simpa using this) hys hcl hu hl hm
    have hz : (ps.toList.map (·.1)).zip (ps.toList.map fun p => a.eval p.2) = (ps.map fun (i, x) => (i, a.eval x)).toList := by
      rw [Array.toList_map]
      generalize ps.toList = l
      induction l with
      | nil => rfl
      | cons p l ih => simp [ih]
    have hz' : ((ps.toList.map (·.1)).zip (ps.toList.map fun p => a.eval p.2)).toArray = ps.map fun (i, x) => (i, a.eval x) := by
      apply Array.ext'; rw [hz]
    rw [hz', ew] at hrun
    have hmx : most ≤ maxLen := by decide
    exact ⟨_, X', own, .value r, r, h, by simp [execOp, hop, hrun], .inl rfl, R''.set o.dst (hrep (by omega))⟩
  · exact (ex1_sound C h hg).o fun c' h' => by rw [h'] at h; exact h.elim
end
end Go.Proofs.Ytaojebdjkpdcdaa.I
