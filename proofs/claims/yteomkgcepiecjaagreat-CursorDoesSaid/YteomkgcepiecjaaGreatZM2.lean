/- Texts of the ideal machine, or of plain numbers, one behind the other: Ex1, Call, Append, App, CopyOp, Ex2, Det, DetOp, Frame, Sched, Code, Range, Body, Tok, Eqt. -/
import Derived.Test.YteomkgcepiecjaaGreatZM1
import Derived.Orders
import Derived.Scope
import Derived.OrdersIn
import Derived.DeepKeys3
/- Every operation that is no call. -/
namespace Go.Proofs.YteomkgcepiecjaaGreat.I
open Go
set_option linter.unusedVariables false
set_option linter.unusedSimpArgs false
section
variable {P : Program}
theorem splice_len {cs vs : List V} {off : Nat} (h : off + vs.length ≤ cs.length) : (splice cs off vs).length = cs.length := by
  simp only [splice, List.length_append, List.length_take, List.length_drop]; omega
theorem flat_append (xs ys : List V) : flat (xs ++ ys) = flat xs ++ flat ys := by simp [flat]
theorem flat_set {xs : List V} {es : Nat} (hu : ∀ x ∈ xs, x.cells.length = es) (j : Nat) (hj : j < xs.length) (y : V) (hy : y.cells.length = es) :
    flat (xs.set j y) = splice (flat xs) (j * es) y.cells := by
  have l1 : (flat (xs.take j)).length = j * es := by
    rw [flat_uniform (es := es) fun x hx => hu x (List.mem_of_mem_take hx), List.length_take, Nat.min_eq_left (by omega)]
  have e2 : flat xs = flat (xs.take j) ++ (xs[j].cells ++ flat (xs.drop (j + 1))) := by
    have e1 : flat xs = flat (xs.take j) ++ flat (xs.drop j) := by rw [← flat_append, List.take_append_drop]
    rw [e1, List.drop_eq_getElem_cons hj]; rfl
  have e3 : flat (xs.set j y) = flat (xs.take j) ++ (y.cells ++ flat (xs.drop (j + 1))) := by
    rw [List.set_eq_take_append_cons_drop, if_pos hj, flat_append]; simp [flat]
  have e4 := hu _ (List.getElem_mem hj)
  have e5 : (flat (xs.take j) ++ (xs[j].cells ++ flat (xs.drop (j + 1)))).drop (j * es + es) = flat (xs.drop (j + 1)) := by
    rw [← List.append_assoc, List.drop_left' (by simp [l1, e4])]
  rw [e3, e2, splice, List.take_left' l1, hy, e5, List.append_assoc]
theorem splice_splice (cs ys : List V) (p off n : Nat) (hn : p + n ≤ cs.length) (ho : off + ys.length ≤ n) :
    splice cs p (splice ((cs.drop p).take n) off ys) = splice cs (p + off) ys := by
  have hl : (splice ((cs.drop p).take n) off ys).length = n := by
    rw [splice_len (by simp; omega)]; simp; omega
  have e : ∀ (l : List V) (m : Nat), n ≤ l.length → m ≤ n → (l.take n).drop m ++ l.drop n = l.drop m := fun l m hl hm => by
    rw [← List.drop_append_of_le_length (by simp; omega), List.take_append_drop]
  have e1 := e (cs.drop p) (off + ys.length) (by simp; omega) ho
  rw [List.drop_drop, List.drop_drop] at e1
  have e2 : splice cs p (splice ((cs.drop p).take n) off ys) = cs.take p ++ splice ((cs.drop p).take n) off ys ++ cs.drop (p + n) := by
    conv => lhs; unfold splice
    rw [hl]
  rw [e2]
  unfold splice
  rw [List.take_take, Nat.min_eq_left (by omega), List.take_add, ← Nat.add_assoc] at *
  simp only [List.append_assoc]
  rw [e1, Nat.add_assoc]
theorem store_sound {cx : Cx} (C : COk P cx) {B : Base} {X : Lay} {own : Nat → Prop} {st : St} {a : Act} (R : Rel B X own st a) {t : TypeId} {x y : V} {K : St → Prop} {v w : Value}
    (h : @store cx st t x y ⟨K⟩) (hx : Rep X v x) (hy : Rep X w y) :
    ∃ st' X' own', K st' ∧ (Instr.storeAt t v w).run P X.w = .ok () X'.w ∧ Rel B X' own' st' a := by
  unfold store at h
  replace h := ti_inv h; obtain ⟨i, hi, hf, h⟩ := h
  have hT := C.T _ _ hi
  obtain ⟨hw, hw1⟩ := rep_cells hy hf
  have hn : w.cells.size = i.size := by have := hw.len; rw [(fits_spec hf).2] at this; simpa using this
  have run : ∀ (g o : Nat) (cur : Array Value) (ty : TypeId), X.w.heap[g]? = some (.cells cur ty (0, 0)) → o + i.size ≤ cur.size →
      (Instr.storeAt t (.pointer (some ⟨g, o, none⟩)) w).run P X.w = .ok () (X.w.setRow g (cur.toList.take o ++ w.cells.toList ++ cur.toList.drop (o + w.cells.toList.length)).toArray) := by
    intro g o cur ty hg hl
    have := run_storeCells_at P g o ty w.cells.toList 0 cur X.w hg (by simp; omega) (fun u hu => hw1 u (Array.mem_toList_iff.1 hu))
    simp only [Nat.add_zero] at this
    simp [Instr.storeAt, Instr.sureAddr, storeVar, hT.size, hn, this]
  split at h <;> first | exact h.elim | skip
  · rename_i hh m es j off
    replace h := so_inv h; obtain ⟨H, hH, ⟨hfz, h1, h2, h3, h4⟩, h⟩ := h
    have hm := R.hm _ _ hH
    cases hx with
    | ref _ _ _ _ _ b o hl hm' hv =>
      obtain ⟨rfl, rfl⟩ := hv (by rw [hm.L]; exact h1.symm)
      subst h3
      have hj : j < H.els.length := by omega
      have hun := uni_len hm.uni
      obtain ⟨ho, q0, q1, q2, ⟨cur, ty, q3, q4, q5, q6⟩, q7, q8⟩ : own hh ∧ (X.j hh).2 = 0 ∧ H.els.length ≤ X.cap hh ∧ X.cap hh ≤ maxLen ∧ Cells X (X.j hh).1 (X.cap hh * H.es) (flat H.els) ∧ B.w.heap.size ≤ (X.j hh).1 ∧
          (∀ o, X.S (X.j hh).1 o → H.fz = true ∧ o < (flat H.els).length) := by
        rcases hm.lay with q | ⟨_, _, q, _⟩ | ⟨_, _, ks, vs, es, ck, rfl, _⟩
        · exact q
        · rcases q with q | q
          · rw [hfz] at q; cases q
          · rw [q] at hj; simp at hj
        · cases hfz
      have hes : off + i.size ≤ H.es ∧ (elemSet H j off y).els.length = H.els.length ∧ (elemSet H j off y).es = H.es ∧ uni (elemSet H j off y).es (elemSet H j off y).ag (elemSet H j off y).els = true ∧
          flat (elemSet H j off y).els = splice (flat H.els) (j * H.es + off) y.cells := by
        unfold canSet at h4
        unfold elemSet
        have ej : H.els.getD j .u = H.els[j] := by simp [List.getD, hj]
        have hel := uni_iff.1 hm.uni _ (List.getElem_mem hj)
        have hel2 := fits_spec hel
        cases hag : H.ag with
        | true =>
          simp only [hag] at h4 ⊢
          rw [hasN_iff, ej, hel2.2] at h4
          rw [ej]
          have hl : (V.agg (splice H.els[j].cells off y.cells)).cells.length = H.es := by
            show (splice H.els[j].cells off y.cells).length = H.es
            rw [splice_len (by rw [hel2.2, (fits_spec hf).2]; exact h4), hel2.2]
          refine ⟨h4, by simp, trivial, ?_, ?_⟩
          · refine uni_iff.2 fun z hz => ?_
            rcases List.mem_or_eq_of_mem_set hz with hz | rfl
            · have := uni_iff.1 hm.uni z hz; rwa [hag] at this
            · simpa [V.fits, V.cells] using hl
          · rw [flat_set hun j hj _ hl]
            show splice (flat H.els) (j * H.es) (splice H.els[j].cells off y.cells) = _
            have := flat_elem hun j hj
            rw [← this]
            exact splice_splice _ _ _ _ _ (by rw [flat_uniform hun]; have := Nat.mul_le_mul_right H.es (show j + 1 ≤ H.els.length by omega); rw [Nat.succ_mul] at this; exact this) (by rw [(fits_spec hf).2]; exact h4)
        | false =>
          simp only [hag, Bool.and_eq_true, Bool.not_eq_true', beq_iff_eq] at h4 ⊢
          obtain ⟨ha, rfl⟩ := h4
          rw [hag] at hel
          have e1 : H.es = 1 := by have := fits_spec hel; rw [cells_one this.1] at this; simpa using this.2.symm
          have e2 := hT.sz ha
          rw [ha, e2] at hf
          refine ⟨by omega, by simp, trivial, ?_, ?_⟩
          · refine uni_iff.2 fun z hz => ?_
            rcases List.mem_or_eq_of_mem_set hz with hz | rfl
            · have := uni_iff.1 hm.uni z hz; rwa [hag] at this
            · rw [e1]; exact hf
          · rw [flat_set hun j hj _ (by rw [(fits_spec hf).2, e1]), Nat.add_zero]
      obtain ⟨g1, g2, g3, g4, g5⟩ := hes
      have hlen : j * H.es + off + i.size ≤ (flat H.els).length := by
        rw [flat_uniform hun]; have := Nat.mul_le_mul_right H.es (show j + 1 ≤ H.els.length by omega); rw [Nat.succ_mul] at this; omega
      obtain ⟨cur', f1, f2, f3⟩ := set_cells (by omega) q6 hw (fun u hu => hw1 u (Array.mem_toList_iff.1 hu)) (j * H.es + off) (by rw [(fits_spec hf).2]; exact hlen)
      refine ⟨_, _, own, h, ?_, R.write hH ho hfz g2 g3 g4 cur cur' ty q3 f2 ?_⟩
      · rw [q0, Nat.zero_add, run _ _ cur ty q3 (by omega), f1]
      · rw [g5]; exact f3
  · rename_i id off
    replace h := so_inv h; obtain ⟨cs, hcs, hN, h⟩ := h
    rw [hasN_iff] at hN
    cases hx with
    | obj _ _ =>
      obtain ⟨st1, Y, y', h, le, ew, R1, hy', hcl, hfy, e1, e2⟩ := give_sound R h hy
      have hf' := hfy _ _ hf
      obtain ⟨hw', _⟩ := rep_cells hy' hf'
      rw [← e2] at hcs
      have ht := R1.ob _ _ hcs
      obtain ⟨cur, ty, q3, q4, q5, q6⟩ := ht.cells
      have hN' : off + y'.cells.length ≤ cs.length := by rw [(fits_spec hf').2]; exact hN
      obtain ⟨cur', f1, f2, f3⟩ := set_cells (by omega) q6 hw' (fun u hu => hw1 u (Array.mem_toList_iff.1 hu)) off hN'
      have q3' := q3
      rw [ew] at q3'
      refine ⟨_, _, own, h, ?_, R1.writeObj hcs (splice_len hN') ?_ cur cur' ty q3 f2 f3⟩
      · show _ = Result.ok () (Y.w.setRow id cur')
        rw [run _ _ cur ty q3' (by have := (fits_spec hf').2; omega), f1, ew]
      · refine (cleans_iff _).2 fun z hz => ?_
        simp only [splice, List.mem_append] at hz
        rcases hz with (hz | hz) | hz
        · exact (cleans_iff _).1 ht.cl _ (List.mem_of_mem_take hz)
        · exact (cleans_iff _).1 (clean_cells hcl) _ hz
        · exact (cleans_iff _).1 ht.cl _ (List.mem_of_mem_drop hz)
theorem made_cells {t : TypeId} {i : TI} (hT : TOk P t i) (X : Lay) {inf : TypeInfo} {z : Value} (h1 : P.info? t = some inf) (h2 : inf.zero = some z) (m n : Nat) (hmn : m ≤ n) :
    (madeCells z.cells (n * i.size)).size = n * i.size ∧
    ∀ k (_ : k < (flat (List.replicate m i.zero)).length) (h' : k < (madeCells z.cells (n * i.size)).size), Rep X (madeCells z.cells (n * i.size))[k] (flat (List.replicate m i.zero))[k] ∧ ((madeCells z.cells (n * i.size))[k]).oneCell' = true := by
  obtain ⟨inf', z', d, g1, g2, g3, g4, g5, g6, g7, g8, g9⟩ := hT.ex
  rw [h1] at g1; injection g1 with g1; subst g1
  rw [h2] at g4; injection g4 with g4; subst g4
  refine ⟨size_madeCells _ _, fun k hk h' => ?_⟩
  rw [size_madeCells] at h'
  have hp : 0 < i.size := by rcases Nat.eq_zero_or_pos i.size with e | e; · rw [e] at h'; simp at h'
                             · exact e
  have hz := rep_cells (g7 X) hT.ft
  have hzl := (fits_spec hT.ft).2
  have hm : k % i.size < i.size := Nat.mod_lt _ hp
  have hun : ∀ x ∈ List.replicate m i.zero, x.cells.length = i.size := fun x hx => by rw [List.eq_of_mem_replicate hx]; exact hzl
  have e1 : (madeCells z.cells (n * i.size))[k]'(by rw [size_madeCells]; exact h') = z.cells[k % i.size]'(by omega) := by
    simp [madeCells, g8, getElem!_pos, hm]
  have hd : k / i.size < m := (Nat.div_lt_iff_lt_mul hp).2 (by rw [flat_uniform hun, List.length_replicate] at hk; exact hk)
  have e2 : (flat (List.replicate m i.zero))[k] = i.zero.cells[k % i.size]'(by omega) := by
    have := flat_elem hun (k / i.size) (by simpa using hd)
    simp only [List.getElem_replicate] at this
    have h3 : i.zero.cells[k % i.size]? = (flat (List.replicate m i.zero))[k]? := by
      rw [← this, List.getElem?_take, if_pos hm, List.getElem?_drop]
      congr 1
      rw [Nat.mul_comm]; exact Nat.div_add_mod k i.size
    rw [List.getElem?_eq_getElem (by omega), List.getElem?_eq_getElem hk] at h3
    exact (Option.some.inj h3).symm
  rw [e1, e2]
  refine ⟨?_, g9 _ (Array.getElem_mem _)⟩
  have := hz.1.get (k % i.size) (by simp; omega) (by omega)
  simpa using this
theorem Rel.home1 {B : Base} {X : Lay} {own : Nat → Prop} {st : St} {a : Act} (R : Rel B X own st a) {d : Nat} (hd : st.mem.get d = none) {es : Nat} {ag : Bool} {x : V} {v : Value}
    (hx : Rep X v x) (hf : x.fits es ag = true) (ty : TypeId) :
    Rel B (X.newHome d (.cells v.cells ty) 1 1) (fun h => h = d ∨ own h) ⟨st.env.set d (.ref d 1 es 0 0), (d, ⟨es, ag, [x], false⟩) :: st.mem, st.om⟩ (a.put (some d) (.pointer (some ⟨X.w.heap.size, 0, none⟩))) := by
  obtain ⟨h1, h2⟩ := rep_cells hx hf
  have hl := (fits_spec hf).2
  have hsz : v.cells.size = es := by have := h1.len; simp at this; omega
  have hfl : flat [x] = x.cells := by simp [flat]
  refine R.newHome (els := [x]) hd (by simpa [uni] using hf) ty v.cells 1 (Nat.le_refl _) (by simp [maxLen]) (by omega) (fun k hk hk' => ?_) ?_
  · simp only [hfl] at hk ⊢
    refine ⟨?_, h2 _ (Array.getElem_mem _)⟩
    have := h1.get k (by simpa using hk') hk
    simpa using this
  · exact .ref _ _ _ _ _ _ _ (by simp [Lay.newHome]) (by simp [Lay.newHome]) fun _ => by simp [Lay.newHome]
theorem map_repL {B : Base} {X : Lay} {own : Nat → Prop} {st : St} {a : Act} (R : Rel B X own st a) {l : Array Operand} (h : l.all goodO = true) :
    (l.map a.eval).size = (l.toList.map st.opd).length ∧ ∀ k (h : k < (l.toList.map st.opd).length) (h' : k < (l.map a.eval).size), Rep X (l.map a.eval)[k] (l.toList.map st.opd)[k] := by
  refine ⟨by simp, fun k h1 h2 => ?_⟩
  simp only [List.getElem_map, Array.getElem_map, Array.getElem_toList]
  exact R.opd (by rw [Array.all_eq_true] at h; exact h k (by simpa using h2))
def goodOp : Op → Bool
  | .move x | .assign x | .load _ x | .nilCheck x | .unOp _ _ x | .convert _ _ x | .makeInterface _ x | .box _ x | .fieldAddr _ x _ | .field _ x _ | .extract x _ => goodO x
  | .pick c a b => goodO c && goodO a && goodO b
  | .build _ ps | .buildSlice _ _ ps => ps.all fun p => goodO p.2
  | .store _ a x | .binOp _ _ a x _ | .indexAddr _ a x | .index _ a x | .makeSlice _ a x => goodO a && goodO x
  | .makeFunc _ fs cs => fs.all goodO && cs.all goodO
  | .slice _ x lo hi mx => goodO x && lo.all goodO && hi.all goodO && mx.all goodO
  | .lookup _ x k _ | .mapEntry _ x k => goodO x && goodO k
  | .insert _ x k v | .mapUpdate _ x k v | .entryStore _ x k v => goodO x && goodO k && goodO v
  | .call c => c.args.all goodO && (match c.callee with | .value f => goodO f | .invoke r _ => goodO r | _ => true)
  | _ => true
theorem opt_rep {B : Base} {X : Lay} {own : Nat → Prop} {st : St} {a : Act} (R : Rel B X own st a) {x : Option Operand} (h : x.all goodO = true) : OptRep X (x.map a.eval) (x.map st.opd) := by
  cases x with
  | none => exact rfl
  | some y => exact ⟨_, rfl, R.opd h⟩
theorem COk.und {cx : Cx} (C : COk P cx) {t : TypeId} {i : TI} (h : cx.T t = some i) : ∃ d, P.underlying t = some d ∧ i.k.fits P d :=
  let ⟨_, _, d, _, _, _, _, h5, h6, _⟩ := (C.T _ _ h).ex
  ⟨d, h5, h6⟩
theorem home_inv {st : St} {dst : Option Tmp} {es : Nat} {ag : Bool} {els : List V} {fz : Bool} {v : Nat → V} {K : St → Prop} (h : @home st dst es ag els fz v ⟨K⟩) :
    ∃ d, dst = some d ∧ st.mem.get d = none ∧ K ⟨st.env.set d (v d), (d, ⟨es, ag, els, fz⟩) :: st.mem, st.om⟩ := by
  unfold home at h
  obtain ⟨d, hd, h1, h2⟩ := so_inv h
  exact ⟨d, hd, h1, h2⟩
theorem pickB_inv {c : V} {A B : Prop} (h : @pickB c ⟨A⟩ ⟨B⟩) : ∃ x, c = .b x ∧ (x = true → A) ∧ (x = false → B) := by
  unfold pickB at h
  split at h
  · exact ⟨_, rfl, h⟩
  · exact h.elim
theorem run_eqGuard {op : BinOp} {t : TypeId} {x y : Operand} {a b : Value} {w : World} (h1 : a ≠ .nilIface) (h2 : ∀ cs, a ≠ .agg cs) : (eqGuard op t x y a b).run P w = .ok () w := by
  unfold eqGuard
  cases op <;> cases a <;> first | rfl | exact absurd rfl h1 | exact absurd rfl (h2 _)
theorem rep_b_of {X : Lay} {r d : Bool} (h : r = true ↔ d = true) : Rep X (.bool r) (.b d) := by
  have : r = d := Bool.eq_iff_iff.2 h
  rw [this]; exact .b _
theorem eqGuard_con {op : BinOp} {t : TypeId} {x y : Operand} {w : World} (h : (isCon x || isCon y) = true) : (eqGuard op t x y .nilIface .nilIface).run P w = .ok () w := by
  unfold eqGuard
  cases op <;> first | rfl | (cases x <;> cases y <;> first | rfl | simp [isCon] at h)
theorem binA_sound {cx : Cx} (C : COk P cx) {X : Lay} {op : BinOp} {t : TypeId} {x y : V} {K : V → Prop} {v v' : Value} (ox oy : Operand) (h : @binA cx op t x y (isCon ox || isCon oy) ⟨K⟩) (hx : Rep X v x) (hy : Rep X v' y) :
    ∃ r u, K r ∧ Rep X u r ∧ (eqGuard op t ox oy v v').run P X.w = .ok () X.w ∧ (binOp op t v v').run P X.w = .ok u X.w := by
  unfold binA at h
  split at h
  · obtain ⟨ks, hk, ⟨f1, f2⟩, h⟩ := so_inv h
    obtain ⟨vs, us, r, rfl, rfl, hrun, hr⟩ := eq_sound (C.E _ _ hk) hx hy f1 f2
    refine ⟨_, .bool r, h, ?_, ?_, ?_⟩
    · apply rep_b_of
      simp [← hr]
    · simp [eqGuard, (C.E _ _ hk).guard]
    · simp [binOp, hrun]
  · obtain ⟨ks, hk, ⟨f1, f2⟩, h⟩ := so_inv h
    obtain ⟨vs, us, r, rfl, rfl, hrun, hr⟩ := eq_sound (C.E _ _ hk) hx hy f1 f2
    refine ⟨_, .bool (!r), h, ?_, ?_, ?_⟩
    · apply rep_b_of
      simp [← hr]
    · simp [eqGuard, (C.E _ _ hk).guard]
    · simp [binOp, hrun]
  · obtain ⟨i, hi, ⟨hc, hf⟩, h⟩ := ti_inv h
    obtain ⟨ms, hu⟩ := isIf_und (C.und hi) hf
    cases hx; cases hy
    exact ⟨_, _, h, .b _, eqGuard_con hc, by simp [binOp, run_equal_nili X.w hu]⟩
  · obtain ⟨i, hi, ⟨hc, hf⟩, h⟩ := ti_inv h
    obtain ⟨ms, hu⟩ := isIf_und (C.und hi) hf
    cases hx; cases hy
    exact ⟨_, _, h, .b _, eqGuard_con hc, by simp [binOp, run_equal_nili X.w hu]⟩
  · obtain ⟨i, hi, h⟩ := ti_inv h
    obtain ⟨r, u, hK, hr, hrun, n1, n2⟩ := bin_sound t i.k (C.und hi) h hx hy
    exact ⟨r, u, hK, hr, run_eqGuard n1 n2, hrun⟩
theorem opds_repP {B : Base} {X : Lay} {own : Nat → Prop} {st : St} {a : Act} (R : Rel B X own st a) {ps : Array (Nat × Operand)} (h : ps.all (fun p => goodO p.2) = true) :
    RepP X (ps.map fun (i, x) => (i, a.eval x)).toList (opds st ps.toList) := by
  have h' : ∀ p ∈ ps.toList, goodO p.2 = true := fun p hp => by
    rw [Array.all_eq_true'] at h; exact h p (Array.mem_toList_iff.1 hp)
  rw [Array.toList_map]
  generalize ps.toList = l at h'
  induction l with
  | nil => exact .nil
  | cons p l ih => exact .cons (R.opd (h' p (by simp))) (ih fun q hq => h' q (by simp [hq]))
theorem byte_lt (s : ByteArray) (k : Nat) : byteAt s k < 2 ^ IntKind.u8.bits := (s.data.getD k 0).toNat_lt
theorem str_at {s : ByteArray} {k : Nat} (h : k < s.size) : s[k]? = some (s.data.getD k 0) := by
  rw [getElem?_pos s k h]
  congr 1
  have h' : k < s.data.size := h
  simp only [Array.getD, h', dif_pos]
  rfl
theorem ex1_sound {cx : Cx} (C : COk P cx) {B : Base} {o : Oper} {st : St} {K : St → Prop} (h : @ex1 cx st o.dst o.op ⟨K⟩) (hg : goodOp o.op = true) : Step P B o st K := by
  unfold ex1 at h
  split at h <;> first | exact h.elim | skip
  all_goals (rename_i hop; rw [hop] at hg; simp only [goodOp, Bool.and_eq_true] at hg)
  · exact .yield fun X own a R => ⟨_, _, h, R.opd hg, by simp [execOp, hop]⟩
  · exact .yield fun X own a R => ⟨_, _, h, R.opd hg, by simp [execOp, hop]⟩
  · rename_i c x y
    obtain ⟨b, hb, h1, h2⟩ := pickB_inv h
    refine .yield fun X own a R => ?_
    have hc := R.opd hg.1.1
    rw [hb] at hc
    have hc' : a.eval c = .bool b := by generalize a.eval c = v at hc; cases hc; rfl
    cases b with
    | true => exact ⟨_, _, h1 rfl, R.opd hg.1.2, by simp [execOp, hop, hc', asBool]⟩
    | false => exact ⟨_, _, h2 rfl, R.opd hg.2, by simp [execOp, hop, hc', asBool]⟩
  · rename_i e
    intro X own a R
    replace h := ti_inv h; obtain ⟨i, hi, h⟩ := h
    have hT := C.T _ _ hi
    obtain ⟨inf, z, dd, g1, g2, g3, g4, g5, g6, g7, g8, g9⟩ := hT.ex
    split at h
    · obtain ⟨st', Y, hK, ew, R'⟩ := thing_sound R e h (g7 X) hT.ft
      refine ⟨_, Y, own, .value _, _, hK, ?_, .inl rfl, R'⟩
      simp [execOp, hop, Instr.alloc, run_zeroValue' g1 g4, newVar, newRow, ew]
    replace h := home_inv h; obtain ⟨d, hd, hm, h⟩ := h
    refine ⟨_, _, _, _, _, h, ?_, .inl rfl, by rw [hd]; exact R.home1 hm (g7 X) hT.ft e⟩
    simp [execOp, hop, Instr.alloc, run_zeroValue' g1 g4, newVar, newRow, Lay.newHome]
  · rename_i e x
    intro X own a R
    replace h := ti_inv h; obtain ⟨i, hi, hf, h⟩ := h
    split at h
    · obtain ⟨st', Y, hK, ew, R'⟩ := thing_sound R e h (R.opd hg) hf
      refine ⟨_, Y, own, .value _, _, hK, ?_, .inl rfl, R'⟩
      simp [execOp, hop, Instr.box, newVar, newRow, ew]
    replace h := home_inv h; obtain ⟨d, hd, hm, h⟩ := h
    refine ⟨_, _, _, _, _, h, ?_, .inl rfl, by rw [hd]; exact R.home1 hm (R.opd hg) hf e⟩
    simp [execOp, hop, Instr.box, newVar, newRow, Lay.newHome]
  · rename_i t ps
    refine .yield fun X own a R => ?_
    obtain ⟨r, u, hK, hr, hrun⟩ := build_sound C (opds_repP R hg) h
    exact ⟨r, u, hK, hr, by simp [execOp, hop, hrun]⟩
  · refine .yield fun X own a R => ?_
    obtain ⟨r, u, hK, hr, hrun⟩ := load_sound C R h (R.opd hg)
    exact ⟨r, u, hK, hr, by simp [execOp, hop, hrun]⟩
  · intro X own a R
    obtain ⟨st', X', own', hK, hrun, R'⟩ := store_sound C R h (R.opd hg.1) (R.opd hg.2)
    exact ⟨_, X', own', .skip, undef, hK, by simp [execOp, hop, hrun], .inr ⟨rfl, rfl⟩, R'.set _ (.u _)⟩
  · rename_i x
    refine .yield fun X own a R => ?_
    have hx := R.opd hg
    unfold nilCheck at h
    split at h <;> first | exact h.elim | skip
    case h_4 f p q heq =>
      rw [heq] at hx
      have : ∃ ps qs, a.eval x = .func (.func f) ps qs := by generalize a.eval x = v at hx; cases hx; exact ⟨_, _, rfl⟩
      obtain ⟨ps, qs, had⟩ := this
      exact ⟨_, _, h, hx, by simp [execOp, hop, had]⟩
    case h_5 m t v heq =>
      rw [heq] at hx
      obtain ⟨f, hf, h⟩ := so_inv h
      have hM := (C.mt _ _ _ hf).2
      have : ∃ vv qs, a.eval x = .func (.method m) #[.iface t vv] qs := by
        generalize a.eval x = w at hx
        cases hx with
        | fn _ vs _ us _ h1 h2 h3 h4 =>
          have hz : vs.size = 1 := h1
          have h0 := h3 0 (by simp) (by omega)
          generalize hv : vs[0]'(by omega) = w0 at h0
          cases h0 with
          | ifc _ vv _ _ =>
            refine ⟨vv, us, ?_⟩
            have : vs = #[.iface t vv] := by
              apply Array.ext (by simp [hz])
              intro i hi hi'
              obtain rfl : i = 0 := by simp at hi'; omega
              simpa using hv
            rw [this]
      obtain ⟨vv, qs, had⟩ := this
      exact ⟨_, _, h, hx, by simp [execOp, hop, had, hM]⟩
    all_goals
      rename_i heq
      rw [heq] at hx
      have : ∃ ad, a.eval x = .pointer (some ad) := by generalize a.eval x = v at hx; cases hx; exact ⟨_, rfl⟩
      obtain ⟨ad, had⟩ := this
      exact ⟨_, _, h, hx, by simp [execOp, hop, had]⟩
  · rename_i t x y _
    refine .yield fun X own a R => ?_
    obtain ⟨r, u, hK, hr, hrun, hrun2⟩ := binA_sound C x y h (R.opd hg.1) (R.opd hg.2)
    exact ⟨r, u, hK, hr, by simp [execOp, hop, hrun, hrun2]⟩
  · refine .yield fun X own a R => ?_
    obtain ⟨r, u, hK, hr, hrun⟩ := un_sound (P := P) h (R.opd hg)
    exact ⟨r, u, hK, hr, by simp [execOp, hop, hrun]⟩
  · replace h := ti_inv h; obtain ⟨i, hi, h⟩ := h
    replace h := ti_inv h; obtain ⟨di, hdi, h⟩ := h
    refine .yield fun X own a R => ?_
    obtain ⟨d, h1, _⟩ := C.und hi
    obtain ⟨r, u, hK, hr, hrun⟩ := conv_sound _ _ ⟨d, h1⟩ (C.und hdi) h (R.opd hg)
    exact ⟨r, u, hK, hr, by simp [execOp, hop, hrun]⟩
  · replace h := ti_inv h; obtain ⟨i, hi, hcn, h⟩ := h
    exact .yield fun X own a R => ⟨_, _, h, .ifc _ _ _ (R.opd hg), by simp [execOp, hop, run_makeInterface, (C.T _ _ hi).cn hcn]⟩
  · rename_i f fs cs
    refine .yield fun X own a R => ⟨_, .func f (fs.map a.eval) (cs.map a.eval), h, ?_, by simp [execOp, hop, Instr.makeFunc]⟩
    obtain ⟨h1, h2⟩ := map_repL R hg.1
    obtain ⟨h3, h4⟩ := map_repL R hg.2
    exact .fn _ _ _ _ _ h1 h3 h2 h4
  · rename_i t l c
    intro X own a R
    replace h := ti_inv h; obtain ⟨i, hi, h⟩ := h
    split at h <;> first | exact h.elim | skip
    rename_i e x y hk h1 h2
    replace h := ti_inv h; obtain ⟨ei, hei, ⟨h0, hxy, hm, hb⟩, h⟩ := h
    obtain ⟨m, rfl⟩ := int_nat h0
    obtain ⟨n, rfl⟩ := int_nat (Int.le_trans h0 hxy)
    have hmn : m ≤ n := by omega
    simp only [Int.toNat_natCast] at h
    have hl := R.opd hg.1
    have hc := R.opd hg.2
    rw [h1] at hl
    rw [h2] at hc
    have el : a.eval l = .int .i64 m := by generalize a.eval l = v at hl; cases hl; rfl
    have ec : a.eval c = .int .i64 n := by generalize a.eval c = v at hc; cases hc; rfl
    have hT := C.T _ _ hei
    obtain ⟨inf, z, dd, g1, g2, g3, g4, g5, g6, g7, g8, g9⟩ := hT.ex
    have hn : n ≤ most := by omega
    have hby : (inf.bytes : Int) * n ≤ 281474976710656 := by
      have : inf.bytes * n ≤ 64 * 1099511627776 := Nat.mul_le_mul (by omega) hn
      omega
    have hrun := run_make (P := P) X.w t e inf z (C.slice hi hk) g1 g4 .i64 .i64 m n (by omega) hxy hby (by unfold most at hn; omega)
    split at h
    · obtain ⟨m1, m2⟩ := made_cells hT X g1 g4 n n (Nat.le_refl _)
      replace h := so_inv h; obtain ⟨d, hd, h⟩ := h
      have hfl : (flat (List.replicate n ei.zero)).length = n * ei.size := by
        rw [flat_uniform (es := ei.size) fun x hx => by rw [List.eq_of_mem_replicate hx]; exact (fits_spec hT.ft).2, List.length_replicate]
      have hcl : cleans (flat (List.replicate n ei.zero)) = true := (cleans_iff _).2 (cleans_flat ((cleans_iff _).2 fun x hx => by rw [List.eq_of_mem_replicate hx]; exact hT.cl))
      obtain ⟨Y, ew, hn0, R'⟩ := R.thing (madeCells z.cells (n * ei.size)) e hcl
        (.of_get (by rw [hfl]; simp [m1]) fun k k1 k2 => by have := (m2 k k2 (by simpa using k1)).1; simpa using this)
        (fun v hv => by
          obtain ⟨k, hk, rfl⟩ := Array.mem_iff_getElem.1 hv
          exact (m2 k (by rw [hfl]; omega) hk).2)
      refine ⟨_, Y, own, .value (.slice (some ⟨X.w.heap.size, 0, none⟩) m n), _, h _ hn0, ?_, .inl rfl, ?_⟩
      rotate_left 1
      · rw [hd]
        exact R'.set (some d) (.ow _ _ _ _ _ (by omega) (by unfold most at hn; simp [maxLen]; omega) fun _ => rfl)
      · simp only [Int.toNat_natCast, g2] at hrun
        simp [execOp, hop, el, ec, hrun, ew]
    obtain ⟨m1, m2⟩ := made_cells hT X g1 g4 m n hmn
    replace h := home_inv h; obtain ⟨d, hd, hmem, h⟩ := h
    refine ⟨_, X.newHome d (.cells (madeCells z.cells (n * ei.size)) e) n (List.replicate m ei.zero).length, (fun h => h = d ∨ own h), .value (.slice (some ⟨X.w.heap.size, 0, none⟩) m n), _, h, ?_, .inl rfl, ?_⟩
    rotate_left 1
    · rw [hd]
      refine R.newHome (els := List.replicate m ei.zero) hmem (uni_iff.2 fun x hx => by rw [List.eq_of_mem_replicate hx]; exact hT.ft) e (madeCells z.cells (n * ei.size)) n (by simpa using hmn) (by unfold most at hn; simp [maxLen]; omega) m1 m2 (v := .slice (some ⟨X.w.heap.size, 0, none⟩) m n) ?_
      exact .row _ _ _ _ _ (by simp [Lay.newHome]) (by simp [Lay.newHome]) (Nat.le_refl _) hmn (by unfold most at hn; simp [maxLen]; omega) (fun e => by cases e) fun _ => by simp [Lay.newHome]
    · simp only [Int.toNat_natCast, g2] at hrun
      simp [execOp, hop, el, ec, hrun, Lay.newHome]
  · refine .yield fun X own a R => ?_
    obtain ⟨r, u, hK, hr, hrun⟩ := slice_sound C h (R.opd hg.1.1.1) (opt_rep R hg.1.1.2) (opt_rep R hg.1.2) (opt_rep R hg.2)
    exact ⟨r, u, hK, hr, by simp [execOp, hop, hrun]⟩
  · refine .yield fun X own a R => ?_
    obtain ⟨r, u, hK, hr, hrun⟩ := fieldAddr_sound C h (R.opd hg)
    exact ⟨r, u, hK, hr, by simp [execOp, hop, hrun]⟩
  · rename_i t x f
    obtain ⟨F, fd, hu, hf, h, inf, hi, hs⟩ := fieldOf_inv C h
    replace h := ti_inv h; obtain ⟨fi, hfi, h⟩ := h
    split at h <;> first | exact h.elim | skip
    rename_i cs hcs
    refine .yield fun X own a R => ?_
    have hx := R.opd hg
    rw [hcs] at hx
    have : ∃ vs, a.eval x = .agg vs := by generalize a.eval x = v at hx; cases hx; exact ⟨_, rfl⟩
    obtain ⟨vs, hvs⟩ := this
    rw [hvs] at hx
    obtain ⟨r, u, hK, hr, hrun⟩ := part_sound (C.T _ _ hfi) hx h
    exact ⟨r, u, hK, hr, by simp [execOp, hop, hvs, Instr.field, run_underlying hu, hf, asAgg, hrun]⟩
  · refine .yield fun X own a R => ?_
    obtain ⟨r, u, hK, hr, hrun⟩ := indexAddr_sound C R h (R.opd hg.1) (R.opd hg.2)
    exact ⟨r, u, hK, hr, by simp [execOp, hop, hrun]⟩
  · rename_i t x ix
    unfold indexV at h
    replace h := ti_inv h; obtain ⟨i, hi, h⟩ := h
    refine .yield fun X own a R => ?_
    have hx := R.opd hg.1
    have hy := R.opd hg.2
    split at h <;> first | exact h.elim | skip
    · rename_i n e cs k hk hcs hix
      replace h := ti_inv h; obtain ⟨ei, hei, ⟨h0, h1⟩, h⟩ := h
      rw [hcs] at hx
      rw [hix] at hy
      have : ∃ vs, a.eval x = .agg vs := by generalize a.eval x = v at hx; cases hx; exact ⟨_, rfl⟩
      obtain ⟨vs, hvs⟩ := this
      have ey : a.eval ix = .int .i64 k := by generalize a.eval ix = v at hy; cases hy; rfl
      rw [hvs] at hx
      have hT := C.T _ _ hei
      obtain ⟨r, u, hK, hr, hrun⟩ := part_sound hT hx h
      exact ⟨r, u, hK, hr, by simp [execOp, hop, hvs, ey, Instr.index, run_underlying (C.array hi hk), asIntOf, h0, h1, hT.size, hrun]⟩
    all_goals
      rename_i hk hcs hix
      rw [hcs] at hx
      rw [hix] at hy
      have hu : P.underlying t = some .string := by
        obtain ⟨d, hd, hf⟩ := C.und hi
        rw [hk] at hf; simp only [TK.fits] at hf; rw [hd, hf]
    · rename_i s k
      obtain ⟨⟨h0, h1⟩, h⟩ := h
      obtain ⟨k, rfl⟩ := int_nat h0
      have es : a.eval x = .string s := by generalize a.eval x = v at hx; cases hx; rfl
      have ey : a.eval ix = .int .i64 k := by generalize a.eval ix = v at hy; cases hy; rfl
      have hk' : k < s.size := by omega
      refine ⟨_, .int .u8 (byteAt s k : Nat), h, .n .u8 _ rfl (byte_lt s k), ?_⟩
      simp [execOp, hop, es, ey, Instr.index, run_underlying hu, asIntOf, str_at hk', byteAt]
    · rename_i s kk k
      obtain ⟨h1, h⟩ := h
      have es : a.eval x = .string s := by generalize a.eval x = v at hx; cases hx; rfl
      have ey : a.eval ix = .int kk k := by generalize a.eval ix = v at hy; cases hy; rfl
      refine ⟨_, .int .u8 (byteAt s k : Nat), h, .n .u8 _ rfl (byte_lt s k), ?_⟩
      simp [execOp, hop, es, ey, Instr.index, run_underlying hu, asIntOf, str_at h1, byteAt]
  · rename_i x j
    split at h <;> first | exact h.elim | skip
    rename_i vs hvs
    refine .yield fun X own a R => ?_
    have hx := R.opd hg
    rw [hvs] at hx
    replace h := so_inv h; obtain ⟨x', hx', h⟩ := h
    obtain ⟨hj, hx'⟩ := List.getElem?_eq_some_iff.1 hx'
    have : ∃ us, a.eval x = .tuple us ∧ ∃ hj' : j < us.size, Rep X us[j] vs[j] := by
      generalize a.eval x = v at hx
      cases hx with
      | tup us _ hz h1 => exact ⟨us, rfl, by omega, h1 j hj (by omega)⟩
    obtain ⟨us, hus, hj', hr⟩ := this
    rw [hx'] at hr
    exact ⟨_, _, h, hr, by simp [execOp, hop, hus, Instr.extract, hj']⟩
  · rename_i t r
    intro X own a R
    replace h := ti_inv h; obtain ⟨i, hi, h⟩ := h
    split at h <;> first | exact h.elim | skip
    replace h := home_inv h; obtain ⟨d, hd, hm, h⟩ := h
    refine ⟨_, _, _, .value _, _, h, ?_, .inl rfl, by rw [hd]; exact R.newMap hm⟩
    simp [execOp, hop, Instr.makeMap, Lay.newHome, Result.andThen]
  · rename_i t x k ok
    refine .yield fun X own a R => ?_
    obtain ⟨r, u, hK, hr, hrun⟩ := mapGet_sound C R h (R.opd hg.1) (R.opd hg.2)
    exact ⟨r, u, hK, hr, by simp [execOp, hop, hrun]⟩
  · rename_i t x k v
    intro X own a R
    obtain ⟨st', X', hK, R', hrun⟩ := mapSet_sound C R h (R.opd hg.1.1) (R.opd hg.1.2) (R.opd hg.2)
    exact ⟨_, X', own, .skip, undef, hK, by simp [execOp, hop, hrun], .inr ⟨rfl, rfl⟩, R'.set _ (.u _)⟩
  · rename_i t x k v
    intro X own a R
    obtain ⟨st', X', hK, R', hrun⟩ := mapSet_sound C R h (R.opd hg.1.1) (R.opd hg.1.2) (R.opd hg.2)
    exact ⟨_, X', own, .skip, undef, hK, by simp [execOp, hop, hrun], .inr ⟨rfl, rfl⟩, R'.set _ (.u _)⟩
  · rename_i t x k
    intro X own a R
    obtain ⟨st', X', u, r, hK, R', hr, hrun⟩ := mapEnt_sound C R h (R.opd hg.1) (R.opd hg.2)
    exact ⟨_, X', own, .value u, u, hK, by simp [execOp, hop, hrun], .inl rfl, R'.set _ hr⟩
  · rename_i t x k v
    intro X own a R
    obtain ⟨st', X', hK, R', hrun⟩ := entStore_sound (P := P) (t := t) R h (R.opd hg.1.1) (R.opd hg.1.2) (R.opd hg.2)
    exact ⟨_, X', own, .skip, undef, hK, by simp [execOp, hop, hrun], .inr ⟨rfl, rfl⟩, R'.set _ (.u _)⟩
end
end Go.Proofs.YteomkgcepiecjaaGreat.I
/- Calls. -/
namespace Go.Proofs.YteomkgcepiecjaaGreat.I
open Go
section
variable {P : Program}
def After (B : Base) (K : St → Prop) (a : Act) (w : World) : Prop := ∃ st X own, K st ∧ X.w = w ∧ Rel B X own st a
def Lay.homes (Y X : Lay) : Lay := { Y with live := X.live, j := X.j, cap := X.cap, L := X.L }
theorem Kept.le {X Y : Lay} {om om' : Om} (h : Kept ⟨X.w, X.S, om, []⟩ Y om') (g : Good X om) : X.Le (Y.homes X) where
  S := h.fS
  w := fun b o hs => by
    refine World.cell?_of_block (h.fb b (g.sb b o hs) ?_)
    show om b = none
    cases e : om b with
    | none => rfl
    | some cs => exact absurd hs ((g.ob b cs e).S o)
  live := fun _ h => h
  hm := fun _ _ => .inl ⟨rfl, rfl, rfl⟩
theorem Rel.good {B : Base} {X : Lay} {own : Nat → Prop} {st : St} {a : Act} (R : Rel B X own st a) : Good X st.om := ⟨R.ob, R.sb⟩
theorem Rel.called {B : Base} {X Y : Lay} {own : Nat → Prop} {st : St} {a : Act} (R : Rel B X own st a) {om' : Om} (h : Kept ⟨X.w, X.S, st.om, []⟩ Y om') :
    Rel B (Y.homes X) own ⟨st.env, st.mem, om'⟩ a := by
  have le := h.le R.good
  have blk : ∀ g, X.live g → own g → (X.j g).1 < X.w.heap.size ∧ Y.w.heap[(X.j g).1]? = X.w.heap[(X.j g).1]? := fun g hl ho => by
    obtain ⟨H, hH⟩ := Option.isSome_iff_exists.1 ((R.lv g).1 hl)
    have hb : (X.j g).1 < X.w.heap.size := by
      exact (R.hm _ _ hH).blk ho
    exact ⟨hb, h.fb _ hb (R.dj g hl ho)⟩
  refine ⟨R.tm, fun k g g' => (R.rp k g g').mono le, R.df, R.lv, ?_, R.ij, ?_, fun id cs hcs => ?_, h.sb, R.fn.trans h.fn, ?_, fun b o hs => h.fS b o (R.fS b o hs), ?_, ?_⟩
  · intro g G hG
    have hl : X.live g := (R.lv g).2 (by simp [hG])
    exact (R.hm _ _ hG).mono le rfl rfl rfl Iff.rfl (fun ho => (blk g hl ho).2) fun o ho hs => h.fS' _ o hs (blk g hl ho).1
  · intro g hl ho
    cases e : om' (X.j g).1 with
    | none => exact e
    | some cs => exact absurd (R.dj g hl ho) (h.fo _ (by rw [e]; simp) (blk g hl ho).1)
  · have ht := h.ob id cs hcs
    exact ⟨ht.cl, by
      obtain ⟨cur, ty, h1, h2, h3, h4⟩ := ht.cells
      refine ⟨cur, ty, h1, h2, h3, fun k hk hk' => ⟨?_, (h4 k hk hk').2⟩⟩
      exact Rep.move (X := Y) (Y := Y.homes X) (fun _ _ h => h) (fun _ _ _ => rfl) (h4 k hk hk').1 ((cleans_iff _).1 ht.cl _ (List.getElem_mem _)), ht.S⟩
  · intro b hb ho
    have : st.om b = none := by
      cases e : st.om b with
      | none => rfl
      | some cs => exact absurd ho (R.fo b (by rw [e]; simp) hb)
    show Y.w.heap[b]? = _
    rw [h.fb b (Nat.lt_of_lt_of_le hb R.fn.size) this]
    exact R.fb b hb ho
  · intro b o hs hb
    exact R.fS' b o (h.fS' b o hs (Nat.lt_of_lt_of_le hb R.fn.size)) hb
  · intro id hid hb
    exact R.fo id (h.fo id hid (Nat.lt_of_lt_of_le hb R.fn.size)) hb
theorem call_sound {cx : Cx} (C : COk P cx) {B : Base} {X : Lay} {own : Nat → Prop} {st : St} {a : Act} (R : Rel B X own st a) {dst : Option Tmp} {f : FuncId} {args : List V} {vs : List Value} {K : St → Prop}
    (h : @call cx st dst f args ⟨K⟩) (hr : RepL X vs args) :
    ((∀ args w, (callFunc f args).run P w = .ok (.enter f args) w) ∧ Calls P f vs.toArray X.w fun e w' => ∃ v, e = .returned v ∧ After B K (a.put dst v) w') ∨
    ∃ v, (callFunc f vs.toArray).run P X.w = .ok (.value v) X.w ∧ After B K (a.put dst v) X.w := by
  unfold call at h
  obtain ⟨st1, Y, ys, h, le, ew, R1, hys, hcl, e1, e2⟩ := gives_sound R h hr
  obtain ⟨c, hc, h⟩ := so_inv h
  rcases C.cs _ _ hc with hok | hok
  rotate_left 1
  · obtain ⟨v, r, hrun, hrep, hQ⟩ := hok.gives Y st1.om ys vs _ R1.good hys hcl h
    rw [ew] at hrun
    exact .inr ⟨v, hrun, _, Y, own, hQ hrep.wf, ew, R1.set dst hrep⟩
  refine .inl ⟨hok.run, ?_⟩
  have := hok.tells Y st1.om ys vs _ R1.good hys hcl h
  rw [Tells, ew] at this
  refine Calls.mono this ?_
  rintro e w' ⟨v, Z, r, om', rfl, rfl, hQ, hrep, hrc, hk⟩
  refine ⟨v, rfl, _, Z.homes Y, own, hQ hrep.wf, rfl, ?_⟩
  rw [← ew] at hk
  exact (R1.called hk).set dst (Rep.move (X := Z) (Y := Z.homes Y) (fun _ _ h => h) (fun _ _ _ => rfl) hrep hrc)
theorem yield_sound {B : Base} {X : Lay} {own : Nat → Prop} {st : St} {a : Act} (R : Rel B X own st a) {dst : Option Tmp} {l : Nat} {c : Cn} (Y : YOk P B l c) {args : List V} {vs : List Value} {K : St → Prop}
    (h : @gives st args ⟨fun st args => @c args st.om ⟨fun r om => r.wf → K ((⟨st.env, st.mem, om⟩ : St).set dst r)⟩⟩) (hr : RepL X vs args) :
    ∃ r : Loop, X.w.heap[l]? = some (.loop r) ∧ vs.length = r.params.size ∧
      ∀ F n, FW F → RoundIn F n P l r.fn ((r.params.zip vs.toArray).foldl (fun tmps (t, a) => tmps.setIfInBounds t a) r.tmps) r.assign r.body X.w fun e w' => ∃ v, e = .returned v ∧ After B K (a.put dst v) w' := by
  obtain ⟨st1, Z, ys, h, le, ew, R1, hys, hcl, e1, e2⟩ := gives_sound R h hr
  obtain ⟨r, h1, h2, h3⟩ := Y.tells Z st1.om ys vs _ R1.reach R1.good hys hcl h
  rw [ew] at h1 h3
  refine ⟨r, h1, h2, fun F n hF => (h3 F n hF).mono ?_⟩
  rintro e w' ⟨v, Y', x, om', rfl, rfl, hQ, hrep, hrc, hk⟩
  exact ⟨v, rfl, _, Y'.homes Z, own, hQ hrep.wf, rfl, (R1.called hk).set dst (Rep.move (X := Y') (Y := Y'.homes Z) (fun _ _ h => h) (fun _ _ _ => rfl) hrep hrc)⟩
def OStep (P : Program) (B : Base) (o : Oper) (st : St) (K : St → Prop) : Prop :=
  ∀ X own a, Rel B X own st a → ∀ F n Q, FW F → o.wpIn F n P a X.w (After B K) Q
theorem wpIn_of_upon {F : Fence} {n : Nat} {o : Oper} {a : Act} {w : World} {K : Act → World → Prop} {Q : Exit → Act → World → Prop} (hF : FW F) (hd : ∀ c, o.op ≠ .defer c) (h : o.uponIn F n P a K Q ((execOp a.eval o).run P w)) : o.wpIn F n P a w K Q :=
  ⟨fun f _ => hF.fn f, by rw [Oper.semAt_eq _ _ _ hd]; exact h⟩
theorem Step.o {B : Base} {o : Oper} {st : St} {K : St → Prop} (hd : ∀ c, o.op ≠ .defer c) (h : Step P B o st K) : OStep P B o st K := by
  intro X own a R F m Q hF
  obtain ⟨st', X', own', n, u, hK, hrun, hn, R'⟩ := h X own a R
  refine wpIn_of_upon hF hd ?_
  rw [hrun]
  rcases hn with rfl | ⟨rfl, rfl⟩
  · exact ⟨st', X', own', hK, rfl, R'⟩
  · exact ⟨st', X', own', hK, rfl, R'⟩
end
end Go.Proofs.YteomkgcepiecjaaGreat.I
/- Append. -/
namespace Go.Proofs.YteomkgcepiecjaaGreat.I
open Go
section
variable {P : Program}
def Src (X : Lay) (v : Value) (ys : List V) : Prop :=
  ∃ a c, v = .slice a ys.length c ∧ ys.length ≤ c ∧ (0 < ys.length → ∃ b o, a = some ⟨b, o, none⟩ ∧ Readable X b o (flat ys))
theorem flat_one {xs : List V} (h : uni 1 false xs = true) : flat xs = xs := by
  induction xs with
  | nil => rfl
  | cons x xs ih =>
    simp only [uni, List.all_cons, Bool.and_eq_true] at h
    have e := cells_one (fits_spec h.1).1
    simp only [flat, List.flatMap_cons, e] at ih ⊢
    rw [ih (by simpa [uni] using h.2)]; rfl
theorem rd_sound {B : Base} {X : Lay} {own : Nat → Prop} {st : St} {a : Act} (R : Rel B X own st a) {y : V} {K : List V → Prop} {v : Value} (h : @rd st.mem st.om y ⟨K⟩) (hy : Rep X v y) :
    ∃ ys, K ys ∧ Src X v ys := by
  unfold rd at h
  split at h <;> first | exact h.elim | skip
  · cases hy with
    | sl0 a c => exact ⟨_, h, a, c, rfl, Nat.zero_le _, fun h => by simp at h⟩
    | sl b o c es xs vals hc hcm hcl hu h1 h2 => exact ⟨_, h, _, c, rfl, hc, fun _ => ⟨b, o, rfl, Fixed.readable ⟨vals, h1, h2⟩⟩⟩
  · cases hy with
    | lit b o es xs vals hcm hcl hu h1 h2 => exact ⟨_, h, _, _, rfl, Nat.le_refl _, fun _ => ⟨b, o, rfl, Fixed.readable ⟨vals, h1, h2⟩⟩⟩
  · cases hy
    exact ⟨_, h, _, _, rfl, Nat.le_refl _, fun h => by simp at h⟩
  · rename_i hh n len
    obtain ⟨H, hH, hn, h⟩ := so_inv h
    have hm := R.hm _ _ hH
    cases hy with
    | row _ _ _ ad c hl hm' hk hc hcm hnn hv =>
      obtain ⟨hc', hv⟩ := hv (by rw [hm.L]; exact hn.symm)
      have hlen : (H.els.take len).length = len := by simp; omega
      refine ⟨_, h, ad, c, by rw [hlen], by omega, fun h0 => ⟨_, _, hv (by omega), ?_⟩⟩
      have e : flat (H.els.take len) = ((flat H.els).drop 0).take (flat (H.els.take len)).length := by
        rw [List.drop_zero]
        have : flat H.els = flat (H.els.take len) ++ flat (H.els.drop len) := by rw [← flat_append, List.take_append_drop]
        conv => rhs; rw [this]
        rw [List.take_left]
      rw [e]
      exact hm.readable.sub 0 _
  · rename_i id off len cap
    obtain ⟨cs, hcs, ⟨h1, h2⟩, h⟩ := so_inv h
    have ht := R.ob id cs hcs
    have hlen : ((cs.drop off).take len).length = len := by simp; omega
    cases hy with
    | ow _ _ _ _ ad q1 q2 q3 =>
      refine ⟨_, h, some ad, cap, by rw [hlen], by omega, fun h0 => ⟨id, off, by rw [q3 (by omega)], ?_⟩⟩
      rw [flat_one h2]
      have := ht.cells.readable.sub off len
      rwa [Nat.zero_add] at this
  · rename_i id off len
    obtain ⟨cs, hcs, ⟨h1, h2⟩, h⟩ := so_inv h
    have ht := R.ob id cs hcs
    have hlen : ((cs.drop off).take len).length = len := by simp; omega
    cases hy with
    | arr ao _ c _ ad hp q1 q2 q3 =>
      cases hp with
      | obj _ _ =>
        refine ⟨_, h, ao, c, by rw [hlen], by omega, fun h0 => ⟨id, off, by rw [q3 (by omega)], ?_⟩⟩
        rw [flat_one h2]
        have := ht.cells.readable.sub off len
        rwa [Nat.zero_add] at this
theorem Src.cells {X : Lay} {v : Value} {ys : List V} (h : Src X v ys) {es : Nat} (hu : ∀ y ∈ ys, y.cells.length = es) :
    ∃ news : List Value, news.length = ys.length * es ∧ RepL X news (flat ys) ∧ (∀ u ∈ news, u.oneCell' = true) ∧ ∀ w : World, w.heap = X.w.heap → (Builtin.firstCells es ys.length v).run P w = .ok news.toArray w := by
  obtain ⟨a, c, rfl, hc, h⟩ := h
  by_cases e : ys.length = 0
  · have : ys = [] := List.eq_nil_of_length_eq_zero e
    subst this
    refine ⟨[], by simp, .nil, by simp, fun w hw => ?_⟩
    cases a with
    | none => exact run_firstCells_none w es _ _ _
    | some ad => exact run_firstCells_some w es 0 ad 0 c [] (by simp) (by simp)
  · obtain ⟨b, o, rfl, vals, h1⟩ := h (by omega)
    have hl := flat_uniform hu
    refine ⟨(List.range (flat ys).length).map vals, by simp [hl], ?_, ?_, fun w hw => ?_⟩
    · exact .of_get (by simp) fun k k1 k2 => by simpa using (h1 k k2).2.1
    · intro u hu
      obtain ⟨k, hk, rfl⟩ := List.mem_map.1 hu
      exact (h1 k (by simpa using hk)).2.2
    · refine run_firstCells_some w es ys.length ⟨b, o, none⟩ _ c _ (by simp [hl]) fun j u hj => ?_
      obtain ⟨hj', hj⟩ := List.getElem?_eq_some_iff.1 hj
      simp only [List.length_map, List.length_range] at hj'
      simp only [List.getElem_map, List.getElem_range] at hj
      subst hj
      rw [add_off]
      have := (h1 j hj').1
      rw [← this]
      exact World.cell?_of_block (by rw [hw])
theorem run_append_fit {t u ty e eu : TypeId} {ei : TI} (ht : P.underlying t = some (.slice e)) (hu : P.underlying u = some (.slice eu)) (hT : TOk P e ei) {base : Option Addr} {sLen sCap : Nat} {xa : Option Addr} {n c : Nat} {w : World}
    {news : List Value} (hf : (Builtin.firstCells ei.size n (.slice xa n c)).run P w = .ok news.toArray w) (h : sLen + n ≤ sCap) {w' : World}
    (hs : ∀ a, base = some a → (storeCells (a.add (sLen * ei.size)) news).run P w = .ok () w') (hn : base = none → w' = w) :
    (Builtin.append_ #[t, u] ty #[.slice base sLen sCap, .slice xa n c]).run P w = .ok (.slice base (sLen + n) sCap) w' := by
  cases base with
  | none => obtain rfl := hn rfl
            simp [Builtin.append_, run_underlying ht, run_underlying hu, hT.size, Builtin.lenOf, h, hf]
  | some a => have := hs a rfl
              simp [Builtin.append_, run_underlying ht, run_underlying hu, hT.size, Builtin.lenOf, h, hf, this]
theorem run_append_new {t u ty e eu : TypeId} {ei : TI} (ht : P.underlying t = some (.slice e)) (hu : P.underlying u = some (.slice eu)) (hT : TOk P e ei) {base : Option Addr} {sLen sCap : Nat} {xa : Option Addr} {n c : Nat} {w : World}
    {olds news : List Value} (hf : ∀ w', w'.heap = w.heap → (Builtin.firstCells ei.size n (.slice xa n c)).run P w' = .ok news.toArray w')
    (ho : ∀ w', w'.heap = w.heap → (Builtin.firstCells ei.size sLen (.slice base sLen sCap)).run P w' = .ok olds.toArray w') (h : sCap < sLen + n) (hm : (sLen + n) * ei.bytes ≤ bmost) (hb : 1 ≤ ei.bytes ∧ ei.bytes ≤ 64) :
    ∃ (rest : Array Value) (cap : Nat) (wd : World), Still w wd ∧ rest.size = (cap - (sLen + n)) * ei.size ∧ sLen + n ≤ cap ∧ cap ≤ maxLen ∧
    (∀ X, RepL X rest.toList (flat (List.replicate (cap - (sLen + n)) ei.zero)) ∧ ∀ v ∈ rest, v.oneCell' = true) ∧
    (Builtin.append_ #[t, u] ty #[.slice base sLen sCap, .slice xa n c]).run P w = .ok (.slice (some ⟨w.heap.size, 0, none⟩) (sLen + n) cap) (wd.alloc (.cells (olds.toArray ++ news.toArray ++ rest) e)) := by
  obtain ⟨inf, z, d, g1, g2, g3, g4, g5, g6, g7, g8, g9⟩ := hT.ex
  have hle : sLen + n ≤ 140737488355328 := Nat.le_trans (Nat.le_mul_of_pos_right _ hb.1) hm
  have h63 : ¬ (9223372036854775807 < ((sLen : Int) + (n : Int))) := by omega
  have hn : ¬ (sLen + n ≤ sCap) := by omega
  have h48 : ¬ (281474976710656 < Builtin.nextslicecap (sLen + n) sCap * inf.bytes) := by
    have := growslice_fits (old := sCap) (need := sLen + n) (bytes := inf.bytes) h (by rw [g3]; exact hm)
    omega
  refine ⟨Builtin.zeroCells z.cells (grownCap w (sLen + n) sCap e - (sLen + n)), grownCap w (sLen + n) sCap e, w.drew, ⟨rfl, rfl, rfl, rfl⟩, by rw [size_zeroCells, g8], grownCap_ge _ _ _ _, grownCap_le_maxLen _ _ _ _ (by simp [maxLen]; omega), fun X => ?_, ?_⟩
  · obtain ⟨m1, m2⟩ := made_cells hT X g1 g4 (grownCap w (sLen + n) sCap e - (sLen + n)) (grownCap w (sLen + n) sCap e - (sLen + n)) (Nat.le_refl _)
    have hfl : (flat (List.replicate (grownCap w (sLen + n) sCap e - (sLen + n)) ei.zero)).length = (grownCap w (sLen + n) sCap e - (sLen + n)) * ei.size := by
      rw [flat_uniform (es := ei.size) fun x hx => by rw [List.eq_of_mem_replicate hx]; exact (fits_spec hT.ft).2, List.length_replicate]
    have ez : Builtin.zeroCells z.cells (grownCap w (sLen + n) sCap e - (sLen + n)) = madeCells z.cells ((grownCap w (sLen + n) sCap e - (sLen + n)) * ei.size) := by
      unfold Builtin.zeroCells madeCells; rw [g8]
    rw [ez]
    refine ⟨.of_get (by rw [hfl]; simp [m1]) fun k k1 k2 => by have := (m2 k k2 (by simpa using k1)).1; simpa using this, fun v hv => ?_⟩
    obtain ⟨k, hk, rfl⟩ := Array.mem_iff_getElem.1 hv
    exact (m2 k (by rw [hfl]; omega) hk).2
  have hf' := hf w.drew rfl
  have ho' := ho w.drew rfl
  rw [← g2] at hf' ho'
  simp [Builtin.append_, run_underlying ht, run_underlying hu, sizeOf, typeInfo, zeroValue, g1, g4, Builtin.lenOf, hn, h63, h48, Question.forced, hf', ho', newRow, grownCap]
  rw [← Array.append_assoc]; simp
theorem Rel.drew {B : Base} {X : Lay} {own : Nat → Prop} {st : St} {a : Act} (R : Rel B X own st a) {w : World} (g : Still X.w w) : Rel B { X with w := w } own st a := by
  have h := g.heap
  have le : X.Le { X with w := w } := ⟨fun _ _ h => h, fun b o _ => World.cell?_of_block (by show w.heap[b]? = _; rw [h]), fun _ h => h, fun _ _ => .inl ⟨rfl, rfl, rfl⟩⟩
  have hb : ∀ b : Nat, w.heap[b]? = X.w.heap[b]? := fun b => by rw [h]
  exact ⟨R.tm, fun k g g' => (R.rp k g g').mono le, R.df, R.lv, fun g G hG => (R.hm g G hG).mono le rfl rfl rfl Iff.rfl (fun _ => hb _) (fun _ _ h => h), R.ij, R.dj,
    fun id cs hcs => (R.ob id cs hcs).mono le (hb _) (R.ob id cs hcs).S, fun b o hs => by show b < w.heap.size; rw [h]; exact R.sb b o hs, R.fn.still g,
    fun b hlt ho => (hb b).trans (R.fb b hlt ho), R.fS, R.fS', R.fo⟩
theorem Rel.mem_get {B : Base} {X : Lay} {own : Nat → Prop} {st : St} {a : Act} (R : Rel B X own st a) {m : Mem} (h : ∀ g, m.get g = st.mem.get g) : Rel B X own ⟨st.env, m, st.om⟩ a :=
  { R with lv := fun g => by rw [R.lv g]; simp only [h], hm := fun g H hH => R.hm g H (by rw [← h]; exact hH) }
def Lay.view (X : Lay) (d b o L : Nat) : Lay :=
  { X with live := fun h => h = d ∨ X.live h, j := fun h => if h = d then (b, o) else X.j h, cap := fun h => if h = d then L else X.cap h, L := fun h => if h = d then L else X.L h }
theorem Rel.view {B : Base} {X : Lay} {own : Nat → Prop} {st : St} {a : Act} (R : Rel B X own st a) {d : Nat} (hd : st.mem.get d = none) {es : Nat} {ag : Bool} {els : List V} {fz : Bool}
    (hu : uni es ag els = true) (hfz : fz = true ∨ els = []) {b o : Nat} (hf : Fixed X b o (flat els)) {v : Value} {x : V}
    (hv : Rep (X.view d b o els.length) v x) :
    Rel B (X.view d b o els.length) (fun h => h ≠ d ∧ own h) ⟨st.env.set d x, (d, ⟨es, ag, els, fz⟩) :: st.mem, st.om⟩ (a.put (some d) v) := by
  have hl : ¬ X.live d := fun h => by have := (R.lv d).1 h; rw [hd] at this; simp at this
  have le : X.Le (X.view d b o els.length) := ⟨fun _ _ h => h, fun _ _ _ => rfl, fun _ h => .inr h, fun h hh => .inl (by
    have : h ≠ d := fun e => hl (e ▸ hh)
    simp [Lay.view, this])⟩
  have R' : Rel B (X.view d b o els.length) (fun h => h ≠ d ∧ own h) ⟨st.env, (d, ⟨es, ag, els, fz⟩) :: st.mem, st.om⟩ a := by
    refine ⟨R.tm, fun k h h' => (R.rp k h h').mono le, R.df, ?_, ?_, ?_, ?_, ?_, R.sb, R.fn, R.fb, R.fS, R.fS', R.fo⟩
    · intro h
      simp only [mem_get_cons, Lay.view]
      by_cases e : h = d
      · simp [e]
      · simp [e, R.lv h]
    · intro h H hH
      simp only [mem_get_cons] at hH
      by_cases e : h = d
      · subst e
        simp only [if_true, Option.some.injEq] at hH
        subst hH
        exact ⟨by simp [Lay.view], hu, .inr (.inl ⟨by simp, by simp [Lay.view], hfz, by simpa [Lay.view] using hf.mono le⟩)⟩
      · simp only [e, if_false] at hH
        exact (R.hm _ _ hH).mono le (by simp [Lay.view, e]) (by simp [Lay.view, e]) (by simp [Lay.view, e]) (by simp [e]) (fun _ => rfl) fun o _ h => h
    · intro h h' hl1 hl2 ho1 ho2 e
      simp only [Lay.view, ho1.1, ho2.1, if_false, false_or] at e hl1 hl2
      exact R.ij h h' hl1 hl2 ho1.2 ho2.2 e
    · intro h hl1 ho
      simp only [Lay.view, ho.1, if_false, false_or] at hl1 ⊢
      exact R.dj h hl1 ho.2
    · intro id cs hcs
      exact (R.ob id cs hcs).mono le rfl (R.ob id cs hcs).S
  exact R'.set (some d) hv
theorem Rel.grow {B : Base} {X : Lay} {own : Nat → Prop} {st : St} {a : Act} (R : Rel B X own st a) {d : Nat} {H : Hm} (hH0 : st.mem.get d = some H) {es : Nat} {ag : Bool} {els : List V} {fz : Bool} (hlt : H.els.length < els.length)
    (hu : uni es ag els = true) (ty : TypeId) (cur : Array Value) (cap : Nat) (hc1 : els.length ≤ cap) (hc2 : cap ≤ maxLen) (hc3 : cur.size = cap * es)
    (hr : ∀ k (_ : k < (flat els).length) (h' : k < cur.size), Rep X cur[k] (flat els)[k] ∧ (cur[k]).oneCell' = true) :
    Rel B (X.newHome d (.cells cur ty) cap els.length) (fun h => h = d ∨ own h) ⟨st.env, st.mem.put d ⟨es, ag, els, fz⟩, st.om⟩ a := by
  have hlive : X.live d := (R.lv d).2 (by simp [hH0])
  have hL := (R.hm _ _ hH0).L
  have le : X.Le (X.newHome d (.cells cur ty) cap els.length) := ⟨fun _ _ h => h, fun b off h => alloc_at X.w _ b off (R.sb b off h), fun _ h => .inr h, fun h hl => by
    by_cases e : h = d
    · subst e; exact .inr (by simp [Lay.newHome]; omega)
    · exact .inl (by simp [Lay.newHome, e])⟩
  have hblk : ∀ h, X.live h → own h → (X.j h).1 < X.w.heap.size := fun h hh ho => by
    have hs := (R.lv h).1 hh
    obtain ⟨H, hH⟩ := Option.isSome_iff_exists.1 hs
    exact (R.hm _ _ hH).blk ho
  refine ⟨R.tm, fun k h h' => (R.rp k h h').mono le, R.df, ?_, ?_, ?_, ?_, ?_, ?_, ?_, ?_, R.fS, R.fS', R.fo⟩
  · intro h
    simp only [mem_get_put, Lay.newHome]
    by_cases e : h = d
    · simp [e]
    · simp [e, R.lv h]
  · intro h H hH
    simp only [mem_get_put] at hH
    by_cases e : h = d
    · subst e
      simp only [if_true, Option.some.injEq] at hH
      subst hH
      refine ⟨by simp [Lay.newHome], hu, .inl ⟨.inl rfl, by simp [Lay.newHome], by simpa [Lay.newHome] using hc1, by simpa [Lay.newHome] using hc2, ?_, by simpa [Lay.newHome] using R.fn.size, ?_⟩⟩
      · refine ⟨cur, ty, by simpa [Lay.newHome] using heap_alloc_new X.w (.cells cur ty), by simpa [Lay.newHome] using hc3, ?_, fun k hk hk' => ⟨((hr k hk hk').1).mono le, (hr k hk hk').2⟩⟩
        rw [flat_uniform (uni_len hu)]; simp only [Lay.newHome, if_true]; exact Nat.mul_le_mul_right _ hc1
      · intro o ho
        simp only [Lay.newHome, if_true] at ho
        exact absurd (R.sb _ _ ho) (by omega)
    · simp only [e, if_false] at hH
      have hlv : X.live h := (R.lv h).2 (by simp [hH])
      refine (R.hm _ _ hH).mono le (by simp [Lay.newHome, e]) (by simp [Lay.newHome, e]) (by simp [Lay.newHome, e]) (by simp [e]) (fun ho => ?_) fun o _ h => h
      have := hblk h hlv ho
      exact heap_alloc_old X.w _ _ this
  · intro h h' hl1 hl2 ho1 ho2 e
    simp only [Lay.newHome] at hl1 hl2 e
    by_cases e1 : h = d <;> by_cases e2 : h' = d
    · rw [e1, e2]
    · simp only [e1, e2, if_true, if_false, false_or] at e hl2 ho2
      have := hblk h' hl2 ho2; omega
    · simp only [e1, e2, if_true, if_false, false_or] at e hl1 ho1
      have := hblk h hl1 ho1; omega
    · simp only [e1, e2, if_false, false_or] at e hl1 hl2 ho1 ho2
      exact R.ij h h' hl1 hl2 ho1 ho2 e
  · intro h hl1 ho
    simp only [Lay.newHome] at hl1 ⊢
    by_cases e : h = d
    · simp only [e, if_true]
      cases hom : st.om X.w.heap.size with
      | none => rfl
      | some cs =>
        obtain ⟨cur', ty', h1, _⟩ := (R.ob _ _ hom).cells
        have := (Array.getElem?_eq_some_iff.1 h1).1
        omega
    · simp only [e, if_false, false_or] at hl1 ho ⊢
      exact R.dj h hl1 ho
  · intro id cs hcs
    have ht := R.ob id cs hcs
    obtain ⟨cur', ty', h1, _⟩ := ht.cells
    exact ht.mono le (heap_alloc_old X.w _ _ (Array.getElem?_eq_some_iff.1 h1).1) ht.S
  · intro b o h
    have := R.sb b o h
    simp only [Lay.newHome, World.alloc, Array.size_push]; omega
  · exact R.fn.alloc _
  · intro b hb ho
    have := R.fn.size
    simp only [Lay.newHome]
    rw [heap_alloc_old X.w _ _ (by omega)]
    exact R.fb b hb ho
def Lay.push (X : Lay) (h L : Nat) (cs : Array Value) : Lay := { X with w := X.w.setRow (X.j h).1 cs, L := fun g => if g = h then L else X.L g }
theorem Rel.push {B : Base} {X : Lay} {own : Nat → Prop} {st : St} {a : Act} (R : Rel B X own st a) {h : Nat} {H : Hm} (hH : st.mem.get h = some H) (ho : own h) {els : List V} (hlt : H.els.length < els.length)
    (hu : uni H.es H.ag els = true) (hcap : els.length ≤ X.cap h) {cur cur' : Array Value} {ty : TypeId} (hb : X.w.heap[(X.j h).1]? = some (.cells cur ty (0, 0))) (hsz : cur'.size = cur.size)
    (hkeep : ∀ k (_ : k < (flat H.els).length), cur'[k]? = cur[k]?)
    (hr : ∀ k (_ : k < (flat els).length) (h' : k < cur'.size), Rep X cur'[k] (flat els)[k] ∧ (cur'[k]).oneCell' = true) :
    Rel B (X.push h els.length cur') own ⟨st.env, st.mem.put h ⟨H.es, H.ag, els, H.fz⟩, st.om⟩ a := by
  have hm := R.hm _ _ hH
  have hlive : X.live h := (R.lv h).2 (by simp [hH])
  obtain ⟨h2, h3, h4, h5, h6, h7⟩ : (X.j h).2 = 0 ∧ H.els.length ≤ X.cap h ∧ X.cap h ≤ maxLen ∧ Cells X (X.j h).1 (X.cap h * H.es) (flat H.els) ∧ B.w.heap.size ≤ (X.j h).1 ∧ (∀ o, X.S (X.j h).1 o → H.fz = true ∧ o < (flat H.els).length) := by
    rcases hm.lay with ⟨_, g⟩ | ⟨g, _⟩ | ⟨_, _, ks, vs, es, ck, _, c4, _⟩
    · exact g
    · exact absurd ho g
    · rw [hb] at c4; cases c4
  have hnew := setRow_heap X.w _ cur cur' ty (0, 0) hb
  have le : X.Le (X.push h els.length cur') := ⟨fun _ _ h => h, fun b o hs => by
    by_cases e : b = (X.j h).1
    · subst e
      have := hkeep o (h7 o hs).2
      simp only [Lay.at, Lay.push, World.cell?, hnew, hb]
      simpa using this
    · exact World.cell?_of_block (setRow_other X.w _ b cur' e), fun _ h => h, fun g hg => by
    by_cases e : g = h
    · subst e; exact .inr (by simp [Lay.push]; rw [hm.L]; exact hlt)
    · exact .inl (by simp [Lay.push, e])⟩
  refine ⟨R.tm, fun k g g' => (R.rp k g g').mono le, R.df, ?_, ?_, R.ij, R.dj, ?_, ?_, ?_, ?_, R.fS, R.fS', R.fo⟩
  · intro g
    simp only [mem_get_put]
    by_cases e : g = h
    · subst e; simp [Lay.push, hlive]
    · simp [e, Lay.push, R.lv g]
  · intro g G hG
    simp only [mem_get_put] at hG
    by_cases e : g = h
    · subst e
      simp only [if_true, Option.some.injEq] at hG
      subst hG
      obtain ⟨cur0, ty0, q1, q2, q3, q4⟩ := h5
      rw [hb] at q1
      injection q1 with q1
      injection q1 with q1 q1' q1''
      subst q1
      have hfl := flat_uniform (uni_len hm.uni)
      have hfl' := flat_uniform (uni_len hu)
      refine ⟨by simp [Lay.push], hu, .inl ⟨ho, h2, hcap, h4, ⟨cur', ty, hnew, by rw [hsz, q2]; rfl, ?_, fun k hk hk' => ⟨((hr k hk hk').1).mono le, (hr k hk hk').2⟩⟩, h6, fun o hs => ⟨(h7 o hs).1, ?_⟩⟩⟩
      · rw [hfl']; exact Nat.mul_le_mul_right _ hcap
      · have := (h7 o hs).2
        rw [hfl] at this; rw [hfl']
        exact Nat.lt_of_lt_of_le this (Nat.mul_le_mul_right _ (Nat.le_of_lt hlt))
    · simp only [e, if_false] at hG
      have hl : X.live g := (R.lv g).2 (by simp [hG])
      refine (R.hm _ _ hG).mono le (by simp [Lay.push, e]) rfl rfl Iff.rfl (fun ho' => ?_) fun o _ hs => hs
      exact setRow_other X.w _ _ _ fun e' => e (R.ij g h hl hlive ho' ho e')
  · intro id cs hcs
    refine (R.ob id cs hcs).mono le (setRow_other X.w _ _ _ fun e => ?_) (R.ob id cs hcs).S
    have := R.dj h hlive ho
    rw [← e, hcs] at this; cases this
  · intro b o hs; show b < (X.w.setRow _ _).heap.size; rw [setRow_size]; exact R.sb b o hs
  · exact R.fn.setRow _ _
  · intro b hlt hom
    show (X.w.setRow _ _).heap[b]? = _
    rw [setRow_other X.w _ _ _ (by omega)]
    exact R.fb b hlt hom
end
end Go.Proofs.YteomkgcepiecjaaGreat.I
/- Append, whole. -/
namespace Go.Proofs.YteomkgcepiecjaaGreat.I
open Go
section
variable {P : Program}
theorem new_cells {X : Lay} {olds news : List Value} {rest : Array Value} {cs : List V} (h : RepL X (olds ++ news) cs) (h1 : ∀ u ∈ olds ++ news, u.oneCell' = true) :
    ∀ k (_ : k < cs.length) (h' : k < (olds.toArray ++ news.toArray ++ rest).size), Rep X (olds.toArray ++ news.toArray ++ rest)[k] cs[k] ∧ ((olds.toArray ++ news.toArray ++ rest)[k]).oneCell' = true := by
  intro k hk h'
  have e : olds.toArray ++ news.toArray ++ rest = ((olds ++ news) ++ rest.toList).toArray := by
    apply Array.ext'; simp
  simp only [e]
  exact cells_of_repL h h1 k hk (by have := h'; rw [e] at this; exact this)
theorem Rel.appNew {B : Base} {X : Lay} {own : Nat → Prop} {st : St} {a : Act} (R : Rel B X own st a) {d : Nat} (hd : st.mem.get d = none) {ei : TI} {els : List V} {fz : Bool} {wd : World} (hw : Still X.w wd)
    (hu : uni ei.size ei.isAgg els = true) (e : TypeId) {olds news : List Value} {rest : Array Value} {cap : Nat} (h1 : RepL X (olds ++ news) (flat els)) (h2 : ∀ u ∈ olds ++ news, u.oneCell' = true)
    (hrest : rest.size = (cap - els.length) * ei.size) (hc : els.length ≤ cap) (hm : cap ≤ maxLen) :
    ∃ X' own', X'.w = wd.alloc (.cells (olds.toArray ++ news.toArray ++ rest) e) ∧
    Rel B X' own' ⟨st.env.set d (.row d els.length els.length), (d, ⟨ei.size, ei.isAgg, els, fz⟩) :: st.mem, st.om⟩ (a.put (some d) (.slice (some ⟨X.w.heap.size, 0, none⟩) els.length cap)) := by
  have R1 := R.drew hw
  refine ⟨_, _, ?_, R1.newHome (els := els) hd hu e (olds.toArray ++ news.toArray ++ rest) cap hc hm ?_ ?_ ?_⟩
  · rfl
  · have hl := h1.len
    rw [flat_uniform (uni_len hu), List.length_append] at hl
    simp only [Array.size_append, List.size_toArray, hrest]
    rw [hl, Nat.sub_mul]
    have := Nat.mul_le_mul_right ei.size hc
    omega
  · refine new_cells (h1.mono ?_) h2
    exact ⟨fun _ _ h => h, fun b o _ => World.cell?_of_block (by show wd.heap[b]? = _; rw [hw.heap]), fun _ h => h, fun _ _ => .inl ⟨rfl, rfl, rfl⟩⟩
  · refine .row _ _ _ _ _ (by simp [Lay.newHome]) (by simp [Lay.newHome]) (Nat.le_refl _) hc hm (fun e => by cases e) fun _ => ?_
    simp [Lay.newHome, hw.heap]
theorem clean_flat {xs : List V} (h : cleans xs = true) : cleans (flat xs) = true := (cleans_iff _).2 (cleans_flat h)
theorem clean_zero {t : TypeId} {ei : TI} (hT : TOk P t ei) (n : Nat) : cleans (flat (List.replicate n ei.zero)) = true :=
  clean_flat ((cleans_iff _).2 fun x hx => by rw [List.eq_of_mem_replicate hx]; exact hT.cl)
theorem cleans_append' {xs ys : List V} (h : cleans xs = true) (g : cleans ys = true) : cleans (xs ++ ys) = true := by
  rw [cleans_iff] at *
  intro x hx
  exact (List.mem_append.1 hx).elim (h x) (g x)
theorem Rel.appObj {B : Base} {X : Lay} {own : Nat → Prop} {st : St} {a : Act} (R : Rel B X own st a) {d : Nat} {wd : World} (hw : Still X.w wd) (e : TypeId) {olds news : List Value} {rest : Array Value} {cs zs : List V} {len cap : Nat}
    (hc1 : cleans cs = true) (hc2 : cleans zs = true) (h1 : RepL X (olds ++ news) cs) (h2 : ∀ u ∈ olds ++ news, u.oneCell' = true) (hz : ∀ X, RepL X rest.toList zs ∧ ∀ v ∈ rest, v.oneCell' = true) (hc : len ≤ cap) (hm : cap ≤ maxLen) :
    ∃ X', st.om X.w.heap.size = none ∧ X'.w = wd.alloc (.cells (olds.toArray ++ news.toArray ++ rest) e) ∧
    Rel B X' own ⟨st.env.set d (.ow X.w.heap.size 0 len cap), st.mem, st.om.put X.w.heap.size (cs ++ zs)⟩ (a.put (some d) (.slice (some ⟨X.w.heap.size, 0, none⟩) len cap)) := by
  have R1 := R.drew hw
  have le : X.Le { X with w := wd } := ⟨fun _ _ h => h, fun b o _ => World.cell?_of_block (by show wd.heap[b]? = _; rw [hw.heap]), fun _ h => h, fun _ _ => .inl ⟨rfl, rfl, rfl⟩⟩
  have eh : wd.heap.size = X.w.heap.size := by rw [hw.heap]
  obtain ⟨Y, ew, hn0, R'⟩ := R1.thing (olds.toArray ++ news.toArray ++ rest) e (cleans_append' hc1 hc2)
    (by
      have := (h1.mono le).append (hz { X with w := wd }).1
      simpa using this)
    (fun v hv => by
      simp only [Array.mem_append, List.mem_toArray] at hv
      rcases hv with (hv | hv) | hv
      · exact h2 _ (List.mem_append.2 (.inl hv))
      · exact h2 _ (List.mem_append.2 (.inr hv))
      · exact (hz X).2 _ hv)
  simp only [eh] at hn0 R'
  refine ⟨Y, hn0, ew, ?_⟩
  have := R'.set (some d) (.ow X.w.heap.size 0 len cap ⟨X.w.heap.size, 0, none⟩ hc hm fun _ => rfl)
  exact this
theorem append_sound {cx : Cx} (C : COk P cx) {B : Base} {X : Lay} {own : Nat → Prop} {st : St} {a : Act} (R : Rel B X own st a) {dst : Option Tmp} {t u ty eu : TypeId} (hu : P.underlying u = some (.slice eu)) {x y : V} {v v' : Value} {K : St → Prop}
    (h : @append cx st dst t x y ⟨K⟩) (hx : Rep X v x) (hy : Rep X v' y) :
    ∃ st' X' own' r, K st' ∧ (Builtin.append_ #[t, u] ty #[v, v']).run P X.w = .ok r X'.w ∧ Rel B X' own' st' (a.put dst r) := by
  unfold append at h
  replace h := ti_inv h; obtain ⟨i, hi, h⟩ := h
  split at h <;> first | exact h.elim | skip
  rename_i e hk
  replace h := ti_inv h; obtain ⟨ei, hei, h⟩ := h
  have ht := C.slice hi hk
  have hT := C.T _ _ hei
  have hrd := rd_sound R h hy
  clear h
  obtain ⟨ys, ⟨⟨huy, hby⟩, h⟩, hsrc⟩ := hrd
  obtain ⟨news, n1, n2, n3, n4⟩ := hsrc.cells (P := P) (uni_len huy)
  obtain ⟨xa, c, rfl, hyc, _⟩ := hsrc
  split at h <;> first | exact h.elim | skip
  · split at h
    · obtain ⟨h1, h⟩ := h
      cases hx
      by_cases e0 : ys.length = 0
      · have : ys = [] := List.eq_nil_of_length_eq_zero e0
        subst this
        have hrun := run_append_fit (ty := ty) ht hu hT (base := none) (sLen := 0) (sCap := 0) (n4 X.w rfl) (by simp) (w' := X.w) (by simp) (fun _ => rfl)
        exact ⟨_, X, own, _, h1 rfl, hrun, R.set dst .nils⟩
      · obtain ⟨⟨hcl, hm⟩, h0⟩ := h (by omega)
        replace h0 := so_inv h0; obtain ⟨d, rfl, h0⟩ := h0
        obtain ⟨rest, cap, wd, hw, hr1, hr2, hr3, hrz, hrun⟩ := run_append_new (ty := ty) (base := none) (sLen := 0) (sCap := 0) (olds := []) ht hu hT n4 (fun w' _ => run_firstCells_none w' _ _ _ _) (by omega) (by simpa using hm) hby
        rw [Nat.zero_add] at hr1 hr2 hrz hrun
        obtain ⟨X', hn0, hX', R'⟩ := R.appObj (d := d) hw e (olds := []) (news := news) (rest := rest) (cs := flat ys) (zs := flat (List.replicate (cap - ys.length) ei.zero)) (len := ys.length) (cap := cap) (clean_flat hcl) (clean_zero hT _) n2 n3 hrz hr2 hr3
        rw [← flat_append] at R'
        exact ⟨_, X', own, _, h0 _ hn0 cap hr2 hr3, by rw [hrun, hX'], R'⟩
    obtain ⟨hm, h⟩ := h
    obtain ⟨d, rfl, hd, h⟩ := home_inv h
    cases hx
    by_cases e0 : ys.length = 0
    · have : ys = [] := List.eq_nil_of_length_eq_zero e0
      subst this
      have hrun := run_append_fit (ty := ty) ht hu hT (base := none) (sLen := 0) (sCap := 0) (n4 X.w rfl) (by simp) (w' := X.w) (by simp) (fun _ => rfl)
      refine ⟨_, X.view d 0 0 ([] : List V).length, _, _, h, hrun, R.view (els := []) hd rfl (.inr rfl) (b := 0) (o := 0) ⟨fun _ => undef, by simp [flat], by simp [flat]⟩ ?_⟩
      exact .row _ _ _ _ _ (by simp [Lay.view]) (by simp [Lay.view]) (Nat.le_refl _) (Nat.le_refl _) (Nat.zero_le _) (fun _ => rfl) fun _ => by simp [Lay.view]
    · obtain ⟨rest, cap, wd, hw, hr1, hr2, hr3, hrz, hrun⟩ := run_append_new (ty := ty) (base := none) (sLen := 0) (sCap := 0) (olds := []) ht hu hT n4 (fun w' _ => run_firstCells_none w' _ _ _ _) (by omega) (by simpa using hm) hby
      rw [Nat.zero_add] at hr1 hr2 hrun
      obtain ⟨X', own', hX', R'⟩ := R.appNew hd hw huy e (olds := []) (news := news) (rest := rest) (cap := cap) (fz := false) n2 n3 hr1 hr2 hr3
      exact ⟨_, X', own', _, h, by rw [hrun, hX'], R'⟩
  · rename_i xs
    split at h
    · obtain ⟨hux, h1, h⟩ := h
      have hx0 := hx
      cases hx with
      | lit b o es _ vals hcm hcl hun h1' h2' =>
      by_cases e0 : ys.length = 0
      · have : ys = [] := List.eq_nil_of_length_eq_zero e0
        subst this
        have hn0 : news = [] := List.eq_nil_of_length_eq_zero (by simpa using n1)
        subst hn0
        have hrun := run_append_fit (ty := ty) ht hu hT (base := some ⟨b, o, none⟩) (sLen := xs.length) (sCap := xs.length) (n4 X.w rfl) (by simp) (w' := X.w) (fun a _ => by simp [storeCells]) (fun e => by cases e)
        exact ⟨_, X, own, _, h1 rfl, hrun, R.set dst hx0⟩
      · obtain ⟨⟨hcl', hm⟩, h0⟩ := h (by omega)
        replace h0 := so_inv h0; obtain ⟨d, rfl, h0⟩ := h0
        have hsx : Src X (.slice (some ⟨b, o, none⟩) xs.length xs.length) xs := ⟨_, _, rfl, Nat.le_refl _, fun _ => ⟨b, o, rfl, Fixed.readable ⟨vals, h1', h2'⟩⟩⟩
        obtain ⟨olds, o1, o2, o3, o4⟩ := hsx.cells (P := P) (uni_len hux)
        obtain ⟨rest, cap, wd, hw, hr1, hr2, hr3, hrz, hrun⟩ := run_append_new (ty := ty) (sLen := xs.length) (sCap := xs.length) ht hu hT n4 o4 (by omega) (by simpa using hm) hby
        rw [← List.length_append] at hr1 hr2 hrz hrun
        obtain ⟨X', hn0, hX', R'⟩ := R.appObj (d := d) hw e (olds := olds) (news := news) (rest := rest) (cs := flat (xs ++ ys)) (zs := flat (List.replicate (cap - (xs ++ ys).length) ei.zero)) (len := (xs ++ ys).length) (cap := cap) (clean_flat hcl') (clean_zero hT _) (by rw [flat_append]; exact o2.append n2)
          (fun u hu => (List.mem_append.1 hu).elim (o3 u) (n3 u)) hrz hr2 hr3
        rw [← flat_append] at R'
        exact ⟨_, X', own, _, h0 _ hn0 cap hr2 hr3, by rw [hrun, hX'], R'⟩
    obtain ⟨⟨hm, hux⟩, h⟩ := h
    obtain ⟨d, rfl, hd, h⟩ := home_inv h
    have huxy : uni ei.size ei.isAgg (xs ++ ys) = true := by simp [uni] at hux huy ⊢; exact ⟨hux, huy⟩
    cases hx with
    | lit b o es _ vals hcm hcl hun h1 h2 =>
    by_cases e0 : ys.length = 0
    · have : ys = [] := List.eq_nil_of_length_eq_zero e0
      subst this
      have hn0 : news = [] := List.eq_nil_of_length_eq_zero (by simpa using n1)
      subst hn0
      have hrun := run_append_fit (ty := ty) ht hu hT (base := some ⟨b, o, none⟩) (sLen := xs.length) (sCap := xs.length) (n4 X.w rfl) (by simp) (w' := X.w) (fun a _ => by simp [storeCells]) (fun e => by cases e)
      refine ⟨_, X.view d b o (xs ++ []).length, _, _, h, hrun, R.view (els := xs ++ []) hd huxy ?_ (b := b) (o := o) ⟨vals, by simpa using h1, by simpa using h2⟩ ?_⟩
      · cases xs <;> simp
      · simp only [List.append_nil, List.length_nil, Nat.add_zero]
        exact .row _ _ _ _ _ (by simp [Lay.view]) (by simp [Lay.view]) (Nat.le_refl _) (Nat.le_refl _) hcm (fun e => by cases e) fun _ => by simp [Lay.view]
    · have hsx : Src X (.slice (some ⟨b, o, none⟩) xs.length xs.length) xs := ⟨_, _, rfl, Nat.le_refl _, fun _ => ⟨b, o, rfl, Fixed.readable ⟨vals, h1, h2⟩⟩⟩
      obtain ⟨olds, o1, o2, o3, o4⟩ := hsx.cells (P := P) (uni_len hux)
      obtain ⟨rest, cap, wd, hw, hr1, hr2, hr3, hrz, hrun⟩ := run_append_new (ty := ty) (sLen := xs.length) (sCap := xs.length) ht hu hT n4 o4 (by omega) (by simpa using hm) hby
      rw [← List.length_append] at hr1 hr2 hrun
      obtain ⟨X', own', hX', R'⟩ := R.appNew hd hw huxy e (olds := olds) (news := news) (rest := rest) (cap := cap) (fz := !xs.isEmpty) (by rw [flat_append]; exact o2.append n2)
        (fun u hu => (List.mem_append.1 hu).elim (o3 u) (n3 u)) hr1 hr2 hr3
      exact ⟨_, X', own', _, h, by rw [hrun, hX'], R'⟩
  · rename_i hh n len
    obtain ⟨H, hH, ⟨g1, rfl, g2, g3, g4⟩, h⟩ := so_inv h
    have hm := R.hm _ _ hH
    subst g1
    have hux : uni ei.size ei.isAgg H.els = true := by rw [← g2, ← g3]; exact hm.uni
    have huxy : uni ei.size ei.isAgg (H.els ++ ys) = true := by simp [uni] at hux huy ⊢; exact ⟨hux, huy⟩
    cases hx with
    | row _ _ _ ad cp hl hm' hk hc hcm hnn hv0 =>
    obtain ⟨hcp, hv⟩ := hv0 hm.L.symm
    clear hv0
    subst hcp
    by_cases e0 : ys.length = 0
    · have : ys = [] := List.eq_nil_of_length_eq_zero e0
      subst this
      have hn0 : news = [] := List.eq_nil_of_length_eq_zero (by simpa using n1)
      subst hn0
      have hrun := run_append_fit (ty := ty) ht hu hT (base := ad) (sLen := H.els.length) (sCap := X.cap hh) (n4 X.w rfl) (by simpa using hc) (w' := X.w) (fun a _ => by simp [storeCells]) (fun _ => rfl)
      refine ⟨_, X, own, _, h, hrun, Rel.set (R.mem_get fun g => ?_) dst (.row _ _ _ _ _ hl hm' hk hc hcm hnn fun _ => ⟨rfl, hv⟩)⟩
      rw [mem_get_put]; by_cases e : g = hh
      · subst e; simp [hH]
      · simp [e]
    · have hsx : Src X (.slice ad H.els.length (X.cap hh)) H.els := ⟨_, _, rfl, hc, fun h0 => ⟨_, _, hv (by omega), hm.readable⟩⟩
      obtain ⟨olds, o1, o2, o3, o4⟩ := hsx.cells (P := P) (uni_len hux)
      by_cases hroom : H.els.length + ys.length ≤ X.cap hh
      · have hcap0 : 0 < X.cap hh := by omega
        have hv := hv hcap0
        rcases hm.lay with ⟨ho, q0, q1, q2, ⟨cur, ty', q3, q4, q5, q6⟩, q7, q8⟩ | ⟨_, hcapn, _, _⟩ | ⟨_, hcapn, _⟩
        case inr.inl => omega
        case inr.inr => omega
        rw [q0] at hv
        subst hv
        have hfl := flat_uniform (uni_len hm.uni)
        have hoff : H.els.length * ei.size = (flat H.els).length := by rw [hfl, g2]
        have hfit : (flat H.els).length + news.length ≤ cur.size := by
          rw [n1, ← hoff, q4, ← g2, ← Nat.add_mul]; exact Nat.mul_le_mul_right _ hroom
        have hrun := run_append_fit (ty := ty) ht hu hT (base := some ⟨(X.j hh).1, 0, none⟩) (sLen := H.els.length) (sCap := X.cap hh) (n4 X.w rfl) hroom
          (w' := X.w.setRow (X.j hh).1 (cur.toList.take (flat H.els).length ++ news ++ cur.toList.drop ((flat H.els).length + news.length)).toArray) (fun a ha => by
            injection ha with ha; subst ha
            rw [add_off, Nat.zero_add, hoff]
            have := run_storeCells_at P (X.j hh).1 (flat H.els).length ty' news 0 cur X.w q3 (by simpa using hfit) n3
            simpa using this) (fun e => by cases e)
        obtain ⟨r1, r2⟩ := repL_of_cells (by omega) q6
        have hcl : (flat H.els).length ≤ cur.toList.length := by simp; omega
        have R' := R.push hH ho (els := H.els ++ ys) (by simp; omega) (by rw [g2, g3]; exact huxy) (by simpa using hroom) q3
          (cur' := (cur.toList.take (flat H.els).length ++ news ++ cur.toList.drop ((flat H.els).length + news.length)).toArray)
          (by simp; omega) (fun k hk => ?_) (fun k hk hk' => ?_)
        · refine ⟨_, _, own, _, h, hrun, R'.set dst ?_⟩
          refine .row _ _ _ _ _ hl (by simp [Lay.push]) (Nat.le_refl _) hroom hcm (fun e => by cases e) fun _ => ⟨rfl, fun _ => by rw [← q0]; rfl⟩
        · rw [List.append_assoc, List.getElem?_toArray, List.getElem?_append_left (by simp; omega), List.getElem?_take, if_pos hk]; simp
        · refine cells_of_repL (by rw [flat_append]; exact r1.append n2) (fun u hu => ?_) k hk hk'
          exact (List.mem_append.1 hu).elim (r2 u) (n3 u)
      · obtain ⟨rest, cap, wd, hw, hr1, hr2, hr3, hrz, hrun⟩ := run_append_new (ty := ty) ht hu hT n4 o4 (by omega) g4 hby
        have R1 := R.drew hw
        have R' := R1.grow hH (els := H.els ++ ys) (fz := H.fz) (by simp; omega) huxy e (olds.toArray ++ news.toArray ++ rest) cap (by simpa using hr2) hr3 ?_ ?_
        · rw [← g2, ← g3] at R'
          refine ⟨_, _, _, _, h, ?_, R'.set dst (v := .slice (some ⟨X.w.heap.size, 0, none⟩) (H.els.length + ys.length) cap) ?_⟩
          · rw [hrun]; rfl
          · refine .row _ _ _ _ _ (by simp [Lay.newHome]) (by simp [Lay.newHome]) (Nat.le_refl _) hr2 hr3 (fun e => by cases e) fun _ => ?_
            simp [Lay.newHome, hw.heap]
        · simp only [Array.size_append, List.size_toArray, hr1, o1, n1]
          rw [← Nat.add_mul, ← Nat.add_mul]
          congr 1; omega
        · have le : X.Le { X with w := wd } := ⟨fun _ _ h => h, fun b o _ => World.cell?_of_block (by show wd.heap[b]? = _; rw [hw.heap]), fun _ h => h, fun _ _ => .inl ⟨rfl, rfl, rfl⟩⟩
          have hxx : RepL X (olds ++ news) (flat (H.els ++ ys)) := by rw [flat_append]; exact o2.append n2
          refine new_cells (hxx.mono le) ?_
          exact fun u hu => (List.mem_append.1 hu).elim (o3 u) (n3 u)
  · rename_i id off len cap
    obtain ⟨cs, hcs, ⟨hcl, hlc, hoc, hmost⟩, hin, hout⟩ := so_inv h
    have htg := R.ob id cs hcs
    obtain ⟨cur, ty', c1, c2, c3, c4⟩ := htg.cells
    have hfy := flat_uniform (uni_len huy)
    cases hx with
    | ow _ _ _ _ ad q1 q2 q3 =>
    by_cases hroom : len + ys.length ≤ cap
    · by_cases e0 : ys.length = 0
      · have : ys = [] := List.eq_nil_of_length_eq_zero e0
        subst this
        have hn0 : news = [] := List.eq_nil_of_length_eq_zero (by simpa using n1)
        subst hn0
        have hrun := run_append_fit (ty := ty) ht hu hT (base := some ad) (sLen := len) (sCap := cap) (n4 X.w rfl) (by simpa using hlc) (w' := X.w) (fun a _ => by simp [storeCells]) (fun e => by cases e)
        have e1 : st.om.put id (splice cs (off + len * ei.size) (flat [])) = st.om := by
          funext k
          simp only [Om.put]
          split
          · rename_i e; subst e; rw [hcs]; simp [splice, flat]
          · rfl
        have hK := hin hroom
        rw [e1] at hK
        exact ⟨_, X, own, _, hK, hrun, R.set dst (.ow _ _ _ _ ad (by simpa using q1) q2 q3)⟩
      · have hcap0 : 0 < cap := by omega
        have hv := q3 hcap0
        subst hv
        have hfit : off + len * ei.size + news.length ≤ cs.length := by
          have := Nat.mul_le_mul_right ei.size hroom
          rw [Nat.add_mul] at this
          omega
        have hrun := run_append_fit (ty := ty) ht hu hT (base := some ⟨id, off, none⟩) (sLen := len) (sCap := cap) (n4 X.w rfl) hroom
          (w' := X.w.setRow id (cur.toList.take (off + len * ei.size) ++ news ++ cur.toList.drop (off + len * ei.size + news.length)).toArray) (fun a ha => by
            injection ha with ha; subst ha
            rw [add_off]
            have := run_storeCells_at P id (off + len * ei.size) ty' news 0 cur X.w c1 (by simp; omega) n3
            simpa using this) (fun e => by cases e)
        obtain ⟨cur', e1, e2, e3⟩ := set_cells (by omega) c4 n2 n3 (off + len * ei.size) (by rw [hfy]; omega)
        have R' := R.writeObj hcs (cs' := splice cs (off + len * ei.size) (flat ys)) (splice_len (by rw [hfy]; omega)) ?_ cur cur' ty' c1 e2 e3
        · subst e1
          have R2 := R'.set dst (v := .slice (some ⟨id, off, none⟩) (len + ys.length) cap) (x := .ow id off (len + ys.length) cap) (.ow _ _ _ _ _ hroom q2 fun _ => rfl)
          exact ⟨_, _, own, _, hin hroom, hrun, R2⟩
        · unfold splice
          refine cleans_append' (cleans_append' (cleans_take _ htg.cl) (clean_flat hcl)) (cleans_drop _ htg.cl)
    · have hout := hout (by omega)
      replace hout := so_inv hout; obtain ⟨d, rfl, hK⟩ := hout
      have hlen : len * ei.size ≤ cap * ei.size := Nat.mul_le_mul_right _ hlc
      obtain ⟨olds, o1, o2, o3, o4⟩ : ∃ olds : List Value, olds.length = len * ei.size ∧ RepL X olds ((cs.drop off).take (len * ei.size)) ∧ (∀ u ∈ olds, u.oneCell' = true) ∧
          ∀ w : World, w.heap = X.w.heap → (Builtin.firstCells ei.size len (.slice (some ad) len cap)).run P w = .ok olds.toArray w := by
        by_cases e0 : len = 0
        · subst e0
          refine ⟨[], by simp, by rw [Nat.zero_mul, List.take_zero]; exact .nil, by simp, fun w hw => ?_⟩
          exact run_firstCells_some w ei.size 0 ad 0 cap [] (by simp) (by simp)
        · have hv := q3 (by omega)
          subst hv
          have hrd := (htg.cells.readable.sub off (len * ei.size))
          rw [Nat.zero_add] at hrd
          obtain ⟨vals, hv⟩ := hrd
          have hl : ((cs.drop off).take (len * ei.size)).length = len * ei.size := by simp; omega
          refine ⟨(List.range (len * ei.size)).map vals, by simp, .of_get (by simp [hl]) fun k k1 k2 => by simpa using (hv k k2).2.1, fun u hu => ?_, fun w hw => ?_⟩
          · obtain ⟨k, hk, rfl⟩ := List.mem_map.1 hu
            exact (hv k (by rw [hl]; simpa using hk)).2.2
          · refine run_firstCells_some w ei.size len ⟨id, off, none⟩ _ cap _ (by simp) fun j u hj => ?_
            obtain ⟨hj', hj⟩ := List.getElem?_eq_some_iff.1 hj
            simp only [List.length_map, List.length_range] at hj'
            simp only [List.getElem_map, List.getElem_range] at hj
            subst hj
            rw [add_off]
            have := (hv j (by rw [hl]; exact hj')).1
            rw [← this]
            exact World.cell?_of_block (by rw [hw])
      obtain ⟨rest, cap', wd, hw, hr1, hr2, hr3, hrz, hrun⟩ := run_append_new (ty := ty) (sLen := len) (sCap := cap) ht hu hT n4 o4 (by omega) hmost hby
      obtain ⟨X', hn0, hX', R'⟩ := R.appObj (d := d) hw e (olds := olds) (news := news) (rest := rest) (cs := (cs.drop off).take (len * ei.size) ++ flat ys) (zs := flat (List.replicate (cap' - (len + ys.length)) ei.zero)) (len := len + ys.length) (cap := cap')
        (cleans_append' (cleans_take _ (cleans_drop _ htg.cl)) (clean_flat hcl)) (clean_zero hT _) (o2.append n2) (fun u hu => (List.mem_append.1 hu).elim (o3 u) (n3 u)) hrz hr2 hr3
      exact ⟨_, X', own, _, hK _ hn0 cap' hr2 hr3, by rw [hrun, hX'], R'⟩
end
end Go.Proofs.YteomkgcepiecjaaGreat.I
/- Cells written where a slice begins: copy, clear. -/
namespace Go.Proofs.YteomkgcepiecjaaGreat.I
open Go
set_option linter.unusedVariables false
set_option linter.unusedSimpArgs false
section
variable {P : Program}
theorem putAt_sound {B : Base} {X : Lay} {own : Nat → Prop} {st : St} {a : Act} (R : Rel B X own st a) {x : V} {es : Nat} {cells : List V} {K : St → Prop} {base : Option Addr} {len cap : Nat}
    (h : @putAt st x es cells ⟨K⟩) (hx : Rep X (.slice base len cap) x) {news : List Value} (hr : RepL X news cells) (h1 : ∀ u ∈ news, u.oneCell' = true) :
    ∃ st' X' own', K st' ∧ (∀ ad, base = some ad → (storeCells ad news).run P X.w = .ok () X'.w) ∧ (base = none → X'.w = X.w) ∧ Rel B X' own' st' a := by
  have hlen := hr.len
  have none : cells = [] → K st → ∃ st' X' own', K st' ∧ (∀ ad, base = some ad → (storeCells ad news).run P X.w = .ok () X'.w) ∧ (base = none → X'.w = X.w) ∧ Rel B X' own' st' a := fun e hK => by
    subst e
    have : news = [] := List.eq_nil_of_length_eq_zero (by simpa using hlen)
    subst this
    exact ⟨st, X, own, hK, fun ad _ => by simp [storeCells], fun _ => rfl, R⟩
  have object : ∀ (id off : Nat) (cs : List V), st.om id = some cs → off + cells.length ≤ cs.length → cleans cells = true → (0 < cells.length → base = some ⟨id, off, Option.none⟩) → K ⟨st.env, st.mem, st.om.put id (splice cs off cells)⟩ →
      ∃ st' X' own', K st' ∧ (∀ ad, base = some ad → (storeCells ad news).run P X.w = .ok () X'.w) ∧ (base = Option.none → X'.w = X.w) ∧ Rel B X' own' st' a := by
    intro id off cs hcs hN hcl hb hK
    by_cases e0 : cells.length = 0
    · have e : cells = [] := List.eq_nil_of_length_eq_zero e0
      subst e
      have e2 : splice cs off [] = cs := by simp [splice]
      have e3 : st.om.put id cs = st.om := by funext k; simp only [Om.put]; split <;> simp_all
      rw [e2, e3] at hK
      exact none rfl hK
    have ht := R.ob _ _ hcs
    obtain ⟨cur, ty, q3, q4, q5, q6⟩ := ht.cells
    obtain ⟨cur', f1, f2, f3⟩ := set_cells (by omega) q6 hr h1 off hN
    have hbs := hb (by omega)
    refine ⟨_, _, own, hK, fun ad ha => ?_, fun e => (by rw [hbs] at e; cases e), R.writeObj hcs (splice_len hN) ?_ cur cur' ty q3 f2 f3⟩
    · rw [hbs] at ha
      injection ha with ha
      subst ha
      have := run_storeCells_at P id off ty news 0 cur X.w q3 (by omega) h1
      simp only [Nat.add_zero] at this
      rw [this, f1]
    · refine (cleans_iff _).2 fun z hz => ?_
      simp only [splice, List.mem_append] at hz
      rcases hz with (hz | hz) | hz
      · exact (cleans_iff _).1 ht.cl _ (List.mem_of_mem_take hz)
      · exact (cleans_iff _).1 hcl _ hz
      · exact (cleans_iff _).1 ht.cl _ (List.mem_of_mem_drop hz)
  have home : ∀ (g m o : Nat) (H : Hm) (els' : List V), st.mem.get g = some H → X.live g → H.fz = false → els'.length = H.els.length → uni H.es H.ag els' = true → flat els' = splice (flat H.els) o cells → o + cells.length ≤ (flat H.els).length →
      (0 < cells.length → base = some ⟨(X.j g).1, (X.j g).2 + o, Option.none⟩) → (cells.length = 0 → H.els = els') → K ⟨st.env, st.mem.put g ⟨H.es, H.ag, els', H.fz⟩, st.om⟩ →
      ∃ st' X' own', K st' ∧ (∀ ad, base = some ad → (storeCells ad news).run P X.w = .ok () X'.w) ∧ (base = Option.none → X'.w = X.w) ∧ Rel B X' own' st' a := by
    intro g m o H els' hH hl hfz g1 g3 g5 hN hb h0 hK
    by_cases e0 : cells.length = 0
    · have e : news = [] := List.eq_nil_of_length_eq_zero (by omega)
      subst e
      refine ⟨_, X, own, hK, fun ad _ => by simp [storeCells], fun _ => rfl, R.mem_get fun q => ?_⟩
      rw [mem_get_put, ← h0 e0]
      by_cases e : q = g
      · subst e; simp [hH]
      · simp [e]
    have hm := R.hm _ _ hH
    obtain ⟨ho, q0, q1, q2, ⟨cur, ty, q3, q4, q5, q6⟩, q7, q8⟩ : own g ∧ (X.j g).2 = 0 ∧ H.els.length ≤ X.cap g ∧ X.cap g ≤ maxLen ∧ Cells X (X.j g).1 (X.cap g * H.es) (flat H.els) ∧ B.w.heap.size ≤ (X.j g).1 ∧
        (∀ o, X.S (X.j g).1 o → H.fz = true ∧ o < (flat H.els).length) := by
      rcases hm.lay with q | ⟨_, _, q, _⟩ | ⟨_, _, ks, vs, es, ck, rfl, _⟩
      · exact q
      · rcases q with q | q
        · rw [hfz] at q; cases q
        · have : (flat H.els).length = 0 := by rw [q]; rfl
          omega
      · cases hfz
    obtain ⟨cur', f1, f2, f3⟩ := set_cells (by omega) q6 hr h1 o hN
    have hbs := hb (by omega)
    rw [q0, Nat.zero_add] at hbs
    refine ⟨_, _, own, hK, fun ad ha => ?_, fun e => (by rw [hbs] at e; cases e), R.write hH ho hfz (H' := ⟨H.es, H.ag, els', H.fz⟩) g1 rfl g3 cur cur' ty q3 f2 (by rw [g5]; exact f3)⟩
    rw [hbs] at ha
    injection ha with ha
    subst ha
    have := run_storeCells_at P (X.j g).1 o ty news 0 cur X.w q3 (by omega) h1
    simp only [Nat.add_zero] at this
    rw [this, f1]
  unfold putAt at h
  split at h
  · rename_i id off n c
    replace h := so_inv h; obtain ⟨cs, hcs, ⟨p1, p2, p3⟩, h⟩ := h
    cases hx with
    | ow _ _ _ _ ad z1 z2 z3 =>
      refine object id off cs hcs p2 p3 (fun hp => ?_) h
      have : 0 < len := by
        rcases Nat.eq_zero_or_pos len with e | e
        · subst e; simp at p1; rw [p1] at hp; simp at hp
        · exact e
      rw [z3 (by omega)]
  · rename_i id off n
    replace h := so_inv h; obtain ⟨cs, hcs, ⟨p0, p1, p2, p3⟩, h⟩ := h
    cases hx with
    | arr _ _ _ _ ad hp z1 z2 z3 =>
      cases hp with
      | obj _ _ => exact object id off cs hcs p2 p3 (fun hp => z3 (by omega)) h
  · rename_i g m hes j o n
    replace h := so_inv h; obtain ⟨H, hH, ⟨p1, p2, p3, p4, p5, p6, p7, p8⟩, h⟩ := h
    split at h <;> first | exact h.elim | skip
    rename_i cs hcs
    have hm := R.hm _ _ hH
    cases hx with
    | arr _ _ _ _ ad hp z1 z2 z3 =>
      cases hp with
      | ref _ _ _ _ _ b ob hl hL hv =>
        obtain ⟨rfl, rfl⟩ := hv (by rw [hm.L]; exact p2.symm)
        have hj : j < H.els.length := by omega
        subst p4
        have hun := uni_len hm.uni
        have hel := uni_iff.1 hm.uni _ (List.getElem_mem hj)
        have hel2 := fits_spec hel
        have eg : H.els[j] = .agg cs := by rw [← hcs]; simp [List.getD, hj]
        have el : cs.length = H.es := by have := hel2.2; rw [eg] at this; exact this
        have hflat := flat_set hun j hj (.agg (splice cs o cells)) (by
          show (splice _ _ _).length = _
          rw [splice_len (by omega), el])
        refine home g m (j * H.es + o) H _ hH hl p1 (List.length_set ..) ?_ ?_ ?_ (fun hp => ?_) (fun e => ?_) h
        · refine uni_iff.2 fun z hz => ?_
          rcases List.mem_or_eq_of_mem_set hz with hz | hz
          · exact uni_iff.1 hm.uni z hz
          · rw [hz, p5]
            simp only [V.fits, Bool.true_and, beq_iff_eq]
            rw [splice_len (by omega), el]
        · rw [hflat]
          have := flat_elem hun j hj
          rw [eg] at this
          show splice (flat H.els) (j * H.es) (splice cs o cells) = _
          rw [show cs = ((flat H.els).drop (j * H.es)).take H.es from this.symm]
          exact splice_splice _ _ _ _ _ (by rw [flat_uniform hun]; have := Nat.mul_le_mul_right H.es (show j + 1 ≤ H.els.length by omega); rw [Nat.succ_mul] at this; exact this) (by omega)
        · rw [flat_uniform hun]
          have := Nat.mul_le_mul_right H.es (show j + 1 ≤ H.els.length by omega)
          rw [Nat.succ_mul] at this; omega
        · rw [z3 (by omega)]
        · have : cells = [] := List.eq_nil_of_length_eq_zero e
          subst this
          have e2 : splice cs o [] = cs := by simp [splice]
          rw [e2, ← eg, List.set_getElem_self]
  · rename_i g m n
    replace h := so_inv h; obtain ⟨H, hH, ⟨p1, p2, p3, p4, p5, p6, p7⟩, h⟩ := h
    have hm := R.hm _ _ hH
    cases hx with
    | row _ _ _ ad c hl hL z1 z2 z3 z4 z5 =>
      obtain ⟨hcap, hv⟩ := z5 (by rw [hm.L]; exact p2.symm)
      have u1 : uni 1 false H.els = true := by have := hm.uni; rwa [p3, p4] at this
      have u2 : uni 1 false (cells ++ H.els.drop cells.length) = true := uni_iff.2 fun z hz => by
        rcases List.mem_append.1 hz with hz | hz
        · exact uni_iff.1 p7 z hz
        · exact uni_iff.1 u1 z (List.mem_of_mem_drop hz)
      refine home g m 0 H _ hH hl p1 (by rw [List.length_append, List.length_drop]; omega) (by rw [p3, p4]; exact u2) ?_ ?_ (fun hp => ?_) (fun e => ?_) h
      · rw [flat_one u2, flat_one u1]; simp [splice]
      · rw [flat_one u1]; omega
      · rw [hv (by omega), Nat.add_zero]
      · have : cells = [] := List.eq_nil_of_length_eq_zero e
        subst this; simp
  · exact none h.1 h.2
theorem lenV_slice {t : TK} {x : V} {K : Nat → Prop} {X : Lay} {v : Value} {e : TypeId} (h : @lenV t x ⟨K⟩) (ht : t = .slice e) (hx : Rep X v x) : ∃ base len cap, v = .slice base len cap ∧ K len := by
  unfold lenV at h
  subst ht
  split at h <;> first | exact h.elim | skip
  · cases hx with
    | sl0 a c => exact ⟨_, _, _, rfl, h.2⟩
    | sl b o c es xs vals _ _ _ _ _ _ => exact ⟨_, _, _, rfl, h.2⟩
  · cases hx with
    | lit b o es xs vals _ _ _ _ _ => exact ⟨_, _, _, rfl, h.2⟩
  · cases hx; exact ⟨_, _, _, rfl, h.2⟩
  · cases hx with | row _ _ _ a c _ _ _ _ _ _ _ => exact ⟨_, _, _, rfl, h.2⟩
  · cases hx with | arr a _ c _ ad _ _ _ _ => exact ⟨_, _, _, rfl, h.2⟩
  · cases hx with | ow _ _ _ _ ad _ _ _ => exact ⟨_, _, _, rfl, h.2⟩
  · simp [TK.isStr] at h
theorem rd_take {X : Lay} {v : Value} {ys : List V} (h : Src X v ys) (n : Nat) : ∃ a c, v = .slice a ys.length c ∧ Src X (.slice a (min ys.length n) c) (ys.take (min ys.length n)) := by
  obtain ⟨a, c, rfl, hc, h⟩ := h
  refine ⟨a, c, rfl, a, c, by simp, by simp; omega, fun h0 => ?_⟩
  obtain ⟨b, o, rfl, hr⟩ := h (by simp at h0; omega)
  refine ⟨b, o, rfl, ?_⟩
  have e : flat (ys.take (min ys.length n)) = ((flat ys).drop 0).take (flat (ys.take (min ys.length n))).length := by
    rw [List.drop_zero]
    have : flat ys = flat (ys.take (min ys.length n)) ++ flat (ys.drop (min ys.length n)) := by rw [← flat_append, List.take_append_drop]
    conv => rhs; rw [this]
    rw [List.take_left]
  rw [e]
  have := hr.sub 0 (flat (ys.take (min ys.length n))).length
  rwa [Nat.add_zero] at this
theorem firstCells_len (es n : Nat) (a : Option Addr) (m m' c : Nat) (w : World) : (Builtin.firstCells es n (.slice a m c)).run P w = (Builtin.firstCells es n (.slice a m' c)).run P w := by
  cases a <;> simp [Builtin.firstCells]
theorem slice_len {X : Lay} {a : Option Addr} {n c : Nat} {y : V} (hy : Rep X (.slice a n c) y) (h : y ≠ .u) : n ≤ maxLen := by
  cases hy with
  | u _ => exact absurd rfl h
  | sl0 _ _ => exact Nat.zero_le _
  | sl b o c es xs vals h1 h2 _ _ _ _ => omega
  | lit b o es xs vals h1 _ _ _ _ => exact h1
  | nils => exact Nat.zero_le _
  | row h m len a c _ _ _ h1 h2 _ _ => omega
  | ow _ _ _ _ ad h1 h2 _ => omega
  | arr a len c p ad _ _ h1 _ => exact h1
theorem copyTo_sound {cx : Cx} (C : COk P cx) {B : Base} {X : Lay} {own : Nat → Prop} {st : St} {a : Act} (R : Rel B X own st a) {dst : Option Tmp} {t u ty : TypeId} {x y : V} {K : St → Prop} {v v' : Value}
    (h : @copyTo cx st dst t x y ⟨K⟩) (hx : Rep X v x) (hy : Rep X v' y) :
    ∃ st' X' own' n, K (st'.set dst (.z n)) ∧ i64ok n ∧ (Builtin.copy_ #[t, u] ty #[v, v']).run P X.w = .ok (.int .i64 n) X'.w ∧ Rel B X' own' st' a := by
  unfold copyTo at h
  replace h := ti_inv h; obtain ⟨i, hi, h⟩ := h
  split at h <;> first | exact h.elim | skip
  rename_i e hk
  replace h := ti_inv h; obtain ⟨ei, hei, h⟩ := h
  have hrd := h
  obtain ⟨ys, h, hsrc⟩ := rd_sound R h hy
  rw [hk] at h
  obtain ⟨base, len, cap, rfl, hu, h⟩ := lenV_slice h rfl hx
  obtain ⟨a', c', rfl, hsrc'⟩ := rd_take hsrc len
  have hut : ∀ z ∈ ys.take (min ys.length len), z.cells.length = ei.size := fun z hz => uni_len hu z (List.mem_of_mem_take hz)
  obtain ⟨news, n1, n2, n3, n4⟩ := hsrc'.cells (P := P) hut
  obtain ⟨st', X', own', hK, s1, s2, R'⟩ := putAt_sound (P := P) R h hx n2 n3
  have hlt : (ys.take (min ys.length len)).length = min ys.length len := by simp
  rw [hlt] at n4
  have hcl : ys.length ≤ maxLen := slice_len hy fun e => by rw [e] at hrd; exact hrd
  refine ⟨st', X', own', _, hK, ?_, ?_, R'⟩
  · unfold i64ok; simp only [maxLen] at hcl; omega
  · have hf : (Builtin.firstCells ei.size (min ys.length len) (.slice a' ys.length c')).run P X.w = .ok news.toArray X.w := by
      rw [firstCells_len ei.size _ a' ys.length (min ys.length len)]; exact n4 X.w rfl
    have hT := (C.T _ _ hei)
    cases base with
    | none =>
      have := s2 rfl
      simp [Builtin.copy_, run_underlying (C.slice hi hk), hT.size, Builtin.lenOf, hf, this, goInt]
    | some ad =>
      have := s1 ad rfl
      simp [Builtin.copy_, run_underlying (C.slice hi hk), hT.size, Builtin.lenOf, hf, this, goInt]
theorem zero_rows {t : TypeId} {i : TI} (hT : TOk P t i) (X : Lay) {inf : TypeInfo} {z : Value} (h1 : P.info? t = some inf) (h2 : inf.zero = some z) (n : Nat) :
    RepL X (Builtin.zeroCells z.cells n).toList (flat (List.replicate n i.zero)) ∧ ∀ v ∈ (Builtin.zeroCells z.cells n).toList, v.oneCell' = true := by
  obtain ⟨inf', z', d, g1, g2, g3, g4, g5, g6, g7, g8, g9⟩ := hT.ex
  rw [h1] at g1; injection g1 with g1; subst g1
  rw [h2] at g4; injection g4 with g4; subst g4
  obtain ⟨m1, m2⟩ := made_cells hT X h1 h2 n n (Nat.le_refl _)
  have hfl : (flat (List.replicate n i.zero)).length = n * i.size := by
    rw [flat_uniform (es := i.size) fun x hx => by rw [List.eq_of_mem_replicate hx]; exact (fits_spec hT.ft).2, List.length_replicate]
  have ez : Builtin.zeroCells z.cells n = madeCells z.cells (n * i.size) := by
    unfold Builtin.zeroCells madeCells; rw [g8]
  rw [ez]
  refine ⟨.of_get (by rw [hfl]; simp [m1]) fun k k1 k2 => by have := (m2 k k2 (by simpa using k1)).1; simpa using this, fun v hv => ?_⟩
  obtain ⟨k, hk, rfl⟩ := Array.mem_iff_getElem.1 (by simpa using hv)
  exact (m2 k (by rw [hfl]; omega) hk).2
theorem clearAll_sound {cx : Cx} (C : COk P cx) {B : Base} {X : Lay} {own : Nat → Prop} {st : St} {a : Act} (R : Rel B X own st a) {dst : Option Tmp} {t ty : TypeId} {x : V} {K : St → Prop} {v : Value}
    (h : @clearAll cx st dst t x ⟨K⟩) (hx : Rep X v x) :
    ∃ st' X' own', K (st'.set dst (.tup [])) ∧ (Builtin.clear_ #[t] ty #[v]).run P X.w = .ok (.tuple #[]) X'.w ∧ Rel B X' own' st' a := by
  unfold clearAll at h
  replace h := ti_inv h; obtain ⟨i, hi, h⟩ := h
  split at h <;> first | exact h.elim | skip
  rename_i e hk
  replace h := ti_inv h; obtain ⟨ei, hei, h⟩ := h
  rw [hk] at h
  obtain ⟨base, len, cap, rfl, h⟩ := lenV_slice h rfl hx
  have hT := C.T _ _ hei
  obtain ⟨inf, z, d, g1, g2, g3, g4, g5, g6, g7, g8, g9⟩ := hT.ex
  obtain ⟨q1, q2⟩ := zero_rows hT X g1 g4 len
  obtain ⟨st', X', own', hK, s1, s2, R'⟩ := putAt_sound (P := P) R h hx q1 q2
  refine ⟨st', X', own', hK, ?_, R'⟩
  cases base with
  | none =>
    have := s2 rfl
    simp [Builtin.clear_, run_underlying (C.slice hi hk), this, Result.andThen]
  | some ad =>
    have := s1 ad rfl
    cases len with
    | zero =>
      have e0 : Builtin.zeroCells z.cells 0 = #[] := by simp [Builtin.zeroCells]
      rw [e0] at this
      simp [storeCells] at this
      simp [Builtin.clear_, run_underlying (C.slice hi hk), Result.andThen, this]
    | succ n => simp [Builtin.clear_, run_underlying (C.slice hi hk), run_zeroValue' g1 g4, this, Result.andThen]
end
end Go.Proofs.YteomkgcepiecjaaGreat.I
/- Every operation. -/
namespace Go.Proofs.YteomkgcepiecjaaGreat.I
open Go
set_option linter.unusedVariables false
set_option linter.unusedSimpArgs false
section
variable {P : Program}
theorem lenV_sound {X : Lay} {t : TypeId} {k : TK} {x : V} {K : Nat → Prop} {v : Value} {ty : TypeId} (ht : ∃ d, P.underlying t = some d ∧ k.fits P d) (h : @lenV k x ⟨K⟩) (hx : Rep X v x) :
    ∃ n, K n ∧ n ≤ maxLen ∧ (Builtin.len_ #[t] ty #[v]).run P X.w = .ok (.int .i64 n) X.w := by
  obtain ⟨d, hd, hf⟩ := ht
  have sl : k.isSl = true → ∃ e, P.underlying t = some (.slice e) := fun h => by
    cases k <;> simp [TK.isSl] at h
    simp only [TK.fits] at hf
    exact ⟨_, by rw [hd, hf]⟩
  unfold lenV at h
  split at h <;> first | exact h.elim | skip
  all_goals obtain ⟨hk, h⟩ := h
  case h_7 =>
    cases hx with
    | s x hm =>
      cases k <;> simp [TK.isStr] at hk
      simp only [TK.fits] at hf; subst hf
      exact ⟨_, h, hm, by simp [Builtin.len_, run_underlying hd, goInt]⟩
  all_goals
    obtain ⟨e, hu⟩ := sl hk
    cases hx
  case h_1.sl0 => exact ⟨_, h, Nat.zero_le _, by simp [Builtin.len_, run_underlying hu, goInt]⟩
  case h_1.sl => exact ⟨_, h, by omega, by simp [Builtin.len_, run_underlying hu, goInt]⟩
  case h_2.lit => exact ⟨_, h, by assumption, by simp [Builtin.len_, run_underlying hu, goInt]⟩
  case h_3.nils => exact ⟨_, h, Nat.zero_le _, by simp [Builtin.len_, run_underlying hu, goInt]⟩
  case h_4.row => exact ⟨_, h, by omega, by simp [Builtin.len_, run_underlying hu, goInt]⟩
  case h_5.arr => exact ⟨_, h, by assumption, by simp [Builtin.len_, run_underlying hu, goInt]⟩
  case h_6.ow => exact ⟨_, h, by omega, by simp [Builtin.len_, run_underlying hu, goInt]⟩
theorem foldMx_sound {X : Lay} (mx : Bool) : ∀ {l : List V} {vs : List Value} {x r : V} {v : Value}, foldMx mx x l = some r → Rep X v x → RepL X vs l →
    ∃ u, Rep X u r ∧ (vs.foldlM (if mx then Builtin.max2 else Builtin.min2) v).run P X.w = .ok u X.w
  | [], vs, x, r, v, h, hx, hl => by
    cases hl
    refine ⟨v, ?_, rfl⟩
    unfold foldMx at h
    split at h <;> simp_all
  | y :: l, vs, x, r, v, h, hx, hl => by
    cases hl with
    | @cons u _ us _ hy hl =>
    unfold foldMx at h
    split at h
    · rename_i he; cases he
    · rename_i a b l' he
      cases he
      cases hx with | z _ h1 =>
      cases hy with | z _ h2 =>
      obtain ⟨u, hu, hrun⟩ := foldMx_sound mx h (v := .int .i64 (if mx then max a b else min a b)) (.z _ (by unfold i64ok at *; split <;> omega)) hl
      refine ⟨u, hu, ?_⟩
      rw [List.foldlM_cons, Sem.run_bind]
      cases mx with
      | true =>
        have e : (if b > a then b else a) = max a b := by split <;> omega
        simp only [if_true] at hrun ⊢
        simp [Builtin.max2, e, hrun]
      | false =>
        have e : (if b < a then b else a) = min a b := by split <;> omega
        simp only [Bool.false_eq_true, if_false] at hrun ⊢
        simp [Builtin.min2, e]
        simpa using hrun
    · rename_i he; cases he
    · rename_i k a k' b l' he
      cases he
      split at h
      · rename_i hk; subst hk
        cases hx with | n _ _ h1 h2 =>
        cases hy with | n _ _ h3 h4 =>
        obtain ⟨u, hu, hrun⟩ := foldMx_sound mx h (v := .int k (if mx then max a b else min a b : Nat)) (.n _ _ h1 (by split <;> omega)) hl
        refine ⟨u, hu, ?_⟩
        rw [List.foldlM_cons, Sem.run_bind]
        cases mx with
        | true =>
          have e : (if (b : Int) > a then (b : Int) else a) = ((max a b : Nat) : Int) := by split <;> omega
          simp only [if_true] at hrun ⊢
          simp only [Builtin.max2, e]
          simpa using hrun
        | false =>
          have e : (if (b : Int) < a then (b : Int) else a) = ((min a b : Nat) : Int) := by split <;> omega
          simp only [Bool.false_eq_true, if_false] at hrun ⊢
          simp only [Builtin.min2, e]
          simpa using hrun
      · cases h
    · cases h
theorem buildElems_flat {es : Nat} {ag : Bool} : ∀ (ps : List (Nat × V)) (l : List V), uni es ag l = true → (∀ p ∈ ps, p.1 < l.length ∧ p.2.fits es ag = true) →
    flat (buildElems l ps) = fill (flat l) (ps.map fun p => (p.1 * es, p.2)) ∧ (buildElems l ps).length = l.length ∧ uni es ag (buildElems l ps) = true
  | [], l, hu, _ => ⟨rfl, rfl, hu⟩
  | (j, v) :: ps, l, hu, hp => by
    obtain ⟨h1, h2⟩ := hp (j, v) (by simp)
    have hu' : uni es ag (l.set j v) = true := uni_iff.2 fun z hz => by
      rcases List.mem_or_eq_of_mem_set hz with hz | rfl
      · exact uni_iff.1 hu z hz
      · exact h2
    obtain ⟨e1, e2, e3⟩ := buildElems_flat ps (l.set j v) hu' fun p hpp => by simpa using hp p (by simp [hpp])
    refine ⟨?_, by simpa [buildElems] using e2, by simpa [buildElems] using e3⟩
    simp only [buildElems, List.map_cons, fill]
    rw [e1, flat_set (uni_len hu) j h1 _ (fits_spec h2).2]
theorem buildElems_clean : ∀ (ps : List (Nat × V)) (l : List V), cleans l = true → (∀ p ∈ ps, p.2.clean = true) → cleans (buildElems l ps) = true
  | [], l, h, _ => h
  | (j, v) :: ps, l, h, hp => by
    simp only [buildElems]
    refine buildElems_clean ps _ ((cleans_iff _).2 fun z hz => ?_) fun p hpp => hp p (by simp [hpp])
    rcases List.mem_or_eq_of_mem_set hz with hz | rfl
    · exact (cleans_iff _).1 h z hz
    · exact hp (j, z) (by simp)
theorem buildSlice_sound {cx : Cx} (C : COk P cx) {B : Base} {X : Lay} {own : Nat → Prop} {st : St} {a : Act} (R : Rel B X own st a) {t e : TypeId} {ei : TI} (ht : P.underlying t = some (.slice e)) (hT : TOk P e ei)
    {len : Nat} {js : List Nat} {vs : List Value} {ys : List V} (hj : js.length = ys.length) (hv : RepL X vs ys) (hcl : cleans ys = true) (hu : uni ei.size ei.isAgg ys = true) (hl : ∀ j ∈ js, j < len) (hm : len * ei.size ≤ 16777216) :
    ∃ X' r, X.Le X' ∧ (Instr.buildSlice t len (js.zip vs).toArray).run P X.w = .ok r X'.w ∧ Rel B X' own st a ∧ (len ≤ maxLen → Rep X' r (.lit (buildElems (List.replicate len ei.zero) (js.zip ys)))) := by
  obtain ⟨inf, z, d, g1, g2, g3, g4, g5, g6, g7, g8, g9⟩ := hT.ex
  obtain ⟨m1, m2⟩ := made_cells hT X g1 g4 len len (Nat.le_refl _)
  have hur : uni ei.size ei.isAgg (List.replicate len ei.zero) = true := uni_iff.2 fun x hx => by rw [List.eq_of_mem_replicate hx]; exact hT.ft
  have hps : ∀ p ∈ js.zip ys, p.1 < (List.replicate len ei.zero).length ∧ p.2.fits ei.size ei.isAgg = true := fun p hp => by
    obtain ⟨h1, h2⟩ := List.of_mem_zip hp
    exact ⟨by simpa using hl _ h1, uni_iff.1 hu _ h2⟩
  obtain ⟨b1, b2, b3⟩ := buildElems_flat (es := ei.size) (ag := ei.isAgg) (js.zip ys) (List.replicate len ei.zero) hur hps
  have hfl : (flat (List.replicate len ei.zero)).length = len * ei.size := by rw [flat_uniform (uni_len hur), List.length_replicate]
  have hvl := hv.len
  obtain ⟨cs', f1, f2, f3⟩ := fill_sound (X := X) (place := fun i => some (i * ei.size, ei.size)) (js.zip vs) ((js.zip ys).map fun p => (p.1 * ei.size, p.2)) (madeCells z.cells (len * ei.size)) (flat (List.replicate len ei.zero))
    (by simp [hvl]) (fun k k1 k2 => by
      simp only [List.length_zip, List.length_map] at k1 k2
      refine ⟨ei.size, ei.isAgg, by simp, ?_, ?_, ?_⟩
      · simp only [List.getElem_map, List.getElem_zip]; exact uni_iff.1 hu _ (List.getElem_mem _)
      · simp only [List.getElem_map, List.getElem_zip]; exact hv.get k (by omega) (by omega)
      · simp only [List.getElem_map, List.getElem_zip, hfl]
        have := hl _ (List.getElem_mem (show k < js.length by omega))
        have := Nat.mul_le_mul_right ei.size (show js[k] + 1 ≤ len by omega)
        rw [Nat.succ_mul] at this; exact this)
    (.of_get (by simp [m1, hfl]) fun k k1 k2 => by simpa using (m2 k k2 (by simpa using k1)).1)
    (fun u hu => by
      obtain ⟨k, hk, rfl⟩ := Array.mem_iff_getElem.1 hu
      exact (m2 k (by rw [hfl, ← m1]; exact hk) hk).2)
  have hsz : cs'.size = len * ei.size := by have := f2.len; rw [← b1, flat_uniform (uni_len b3), b2, List.length_replicate] at this; simpa using this
  obtain ⟨le, R'⟩ := R.block (.cells cs' e) (len * ei.size)
  refine ⟨_, .slice (some ⟨X.w.heap.size, 0, none⟩) len len, le, ?_, R', fun hlm => ?_⟩
  · have hn : ¬ (16777216 < len * ei.size) := by omega
    by_cases h0 : len * ei.size = 0
    · have e0 : madeCells z.cells (len * ei.size) = (Array.range 0).map fun i => (#[] : Array Value)[i % (#[] : Array Value).size]! := by rw [h0]; simp [madeCells]
      rw [e0] at f1
      simp only [Array.range_zero'] at f1
      simp [Instr.buildSlice, run_underlying ht, hT.size, hn, h0, Array.range_zero', newRow, Lay.block]
      simp at f1
      simp [f1]
    · simp only [madeCells] at f1
      simp [Instr.buildSlice, run_underlying ht, hT.size, hn, h0, run_zeroValue' g1 g4, f1, newRow, Lay.block]
  · have hlen : (buildElems (List.replicate len ei.zero) (js.zip ys)).length = len := by rw [b2, List.length_replicate]
    have hfl2 := flat_uniform (uni_len b3)
    rw [hlen] at hfl2
    have := Rep.lit (X := X.block (.cells cs' e) (len * ei.size)) X.w.heap.size 0 ei.size (buildElems (List.replicate len ei.zero) (js.zip ys)) (fun k => cs'.getD k undef) (by omega)
      (buildElems_clean _ _ ((cleans_iff _).2 fun x hx => by rw [List.eq_of_mem_replicate hx]; exact hT.cl) fun p hp => (cleans_iff _).1 hcl _ (List.of_mem_zip hp).2) (uni_len b3)
      (fun k hk => by
        have hk' : k < cs'.size := by omega
        have ek : cs'.getD k undef = cs'[k] := by simp [Array.getD, hk']
        simp only [ek, Nat.zero_add]
        refine ⟨.inr ⟨rfl, by omega⟩, ?_, f3 _ (Array.getElem_mem hk')⟩
        show (X.w.alloc (.cells cs' e)).cell? ⟨X.w.heap.size, k, none⟩ = _
        rw [cell_of_row _ _ _ cs' e (0, 0) (heap_alloc_new X.w _)]
        simp [hk'])
      (fun k hk => by
        have hk' : k < cs'.size := by omega
        have ek : cs'.getD k undef = cs'[k] := by simp [Array.getD, hk']
        simp only [ek]
        have := f2.get k (by simpa using hk') (by rw [← b1]; exact hk)
        simp only [← b1] at this
        exact Rep.mono le (by simpa using this))
    rwa [hlen] at this
theorem RepL.of_arr {X : Lay} {us : Array Value} {xs : List V} (hz : us.size = xs.length) (h : ∀ k (h : k < xs.length) (h' : k < us.size), Rep X us[k] xs[k]) : RepL X us.toList xs :=
  .of_get (by simpa using hz) fun k k1 k2 => by simpa using h k k2 (by simpa using k1)
theorem opds_repL {B : Base} {X : Lay} {own : Nat → Prop} {st : St} {a : Act} (R : Rel B X own st a) {l : Array Operand} (h : l.all goodO = true) : RepL X (l.map a.eval).toList (l.toList.map st.opd) := by
  obtain ⟨h1, h2⟩ := map_repL R h
  exact .of_arr h1 h2
theorem exCall_sound {cx : Cx} (C : COk P cx) {B : Base} (Y : ∀ l c, cx.y = some (l, c) → YOk P B l c) {o : Oper} {st : St} {K : St → Prop} {c : Call} (hop : o.op = .call c) (h : @exCall cx st o.dst c.callee (c.args.toList.map st.opd) c.argTypes.toList ⟨K⟩)
    (hg : goodOp o.op = true) : OStep P B o st K := by
  rw [hop] at hg
  simp only [goodOp, Bool.and_eq_true] at hg
  intro X own a R F m Q hF
  have hargs := opds_repL R hg.1
  unfold exCall at h
  refine wpIn_of_upon hF (fun c' h' => by rw [hop] at h'; cases h') ?_
  split at h <;> first | exact h.elim | skip
  · rename_i f hcal
    rw [hcal] at hg
    have hf := R.opd hg.2
    split at h <;> first | exact h.elim | skip
    rotate_left 1
    · rename_i l hfn
      rw [hfn] at hf
      obtain ⟨p, hp, hl, h⟩ := so_inv h
      obtain ⟨l', cy⟩ := p
      simp only at hl h
      subst hl
      have hev : a.eval f = .func (.yield l) #[] #[] := by
        generalize a.eval f = v at hf
        cases hf with
        | fn _ vs _ us _ z1 z2 h1 h2 =>
          have e1 : vs = #[] := by simpa using z1
          have e2 : us = #[] := by simpa using z2
          rw [e1, e2]
      obtain ⟨r, hr1, hr2, hr3⟩ := yield_sound R (Y l cy hp) h hargs
      have e : (execOp a.eval o).run P X.w = .ok (.round l r.fn ((r.params.zip (c.args.map a.eval)).foldl (fun tmps (t, a) => tmps.setIfInBounds t a) r.tmps) r.assign r.body) X.w := by
        have := run_yield (P := P) (args := c.args.map a.eval) hr1 (by simpa using hr2)
        simp [execOp, hop, resolve, hcal, Deferred.ofValue, hev, invoke, this]
      rw [e, Oper.uponIn_round]
      have ea : (c.args.map a.eval).toList.toArray = c.args.map a.eval := by apply Array.ext'; simp
      rw [ea] at hr3
      refine ⟨fun hh => by rw [hF.depth] at hh; simp at hh, (hr3 F (m - 1) hF).mono ?_⟩
      rintro e w' ⟨v, rfl, hA⟩
      exact hA
    rename_i g as bs hfn
    rw [hfn] at hf
    have : ∃ us ws, a.eval f = .func (.func g) us ws ∧ RepL X us.toList as ∧ RepL X ws.toList bs := by
      generalize a.eval f = v at hf
      cases hf with
      | fn _ vs _ us _ z1 z2 h1 h2 => exact ⟨vs, us, rfl, .of_arr z1 h1, .of_arr z2 h2⟩
    obtain ⟨us, ws, hev, r1, r2⟩ := this
    have ea : us ++ c.args.map a.eval ++ ws = (us.toList ++ (c.args.map a.eval).toList ++ ws.toList).toArray := by
      apply Array.ext'; simp
    rcases call_sound C R h ((r1.append hargs).append r2) with ⟨hrun, hcalls⟩ | ⟨v, hrun, hA⟩
    rotate_left 1
    · have e : (execOp a.eval o).run P X.w = .ok (.value v) X.w := by
        rw [← ea, Array.append_assoc] at hrun
        simp [execOp, hop, resolve, hcal, Deferred.ofValue, hev, invoke, hrun]
      rw [e, Oper.uponIn_value]
      exact hA
    have e : (execOp a.eval o).run P X.w = .ok (.enter g (us ++ c.args.map a.eval ++ ws)) X.w := by
      simp [execOp, hop, resolve, hcal, Deferred.ofValue, hev, invoke, hrun]
    rw [e, Oper.uponIn_enter]
    rw [ea]
    refine ⟨fun hh => by rw [hF.depth] at hh; simp at hh, hF.calls (Calls.mono hcalls ?_)⟩
    rintro e w' ⟨v, rfl, hA⟩
    exact hA
  · rename_i r mth hcal
    rw [hcal] at hg
    have hf := R.opd hg.2
    split at h <;> first | exact h.elim | skip
    rename_i t x hr
    rw [hr] at hf
    obtain ⟨u, hev, hu⟩ : ∃ u, a.eval r = .iface t u ∧ Rep X u x := by
      generalize a.eval r = v at hf
      cases hf with | ifc _ v _ h => exact ⟨v, rfl, h⟩
    obtain ⟨g, hg', h⟩ := so_inv h
    have hM := (C.mt _ _ _ hg').1
    have ea : #[u] ++ c.args.map a.eval = (u :: (c.args.map a.eval).toList).toArray := by
      apply Array.ext'; simp
    have ex : (#[Value.iface t u] ++ c.args.map a.eval).extract 1 (#[Value.iface t u] ++ c.args.map a.eval).size = c.args.map a.eval := by
      apply Array.ext'; simp
      rw [List.take_of_length_le (by simp)]
    have e0 : (#[Value.iface t u] ++ c.args.map a.eval)[0]? = some (.iface t u) := by rw [Array.getElem?_append_left (by simp)]; rfl
    have base : (execOp a.eval o).run P X.w = (callFunc g (#[u] ++ c.args.map a.eval)).run P X.w := by
      simp only [execOp, hop, resolve, hcal, hev, invoke, Sem.run_bind, Sem.run_pure, Result.andThen]
      rw [ex]
      rw [e0]
      simp only [callMethod, Sem.run_bind, run_program, Result.andThen_ok, hM u X.w]
    rcases call_sound C R h (.cons hu hargs) with ⟨hrun, hcalls⟩ | ⟨v, hrun, hA⟩
    rotate_left 1
    · rw [← ea, ← base] at hrun
      rw [hrun, Oper.uponIn_value]
      exact hA
    have e : (execOp a.eval o).run P X.w = .ok (.enter g (#[u] ++ c.args.map a.eval)) X.w := by rw [base, hrun]
    rw [e, Oper.uponIn_enter]
    rw [ea]
    refine ⟨fun hh => by rw [hF.depth] at hh; simp at hh, hF.calls (Calls.mono hcalls ?_)⟩
    rintro e w' ⟨v, rfl, hA⟩
    exact hA
  · rename_i hcal
    split at h <;> first | exact h.elim | skip
    rename_i x t he1 he2
    replace h := ti_inv h; obtain ⟨i, hi, h⟩ := h
    rw [he1] at hargs
    obtain ⟨v, hv, hx⟩ : ∃ v, c.args.map a.eval = #[v] ∧ Rep X v x := by
      generalize hl : (c.args.map a.eval).toList = l at hargs
      cases hargs with | cons hx hn =>
      cases hn
      exact ⟨_, by apply Array.ext'; simpa using hl, hx⟩
    have ht : c.argTypes = #[t] := by apply Array.ext'; simpa using he2
    obtain ⟨n, hK, hn, hrun⟩ := lenV_sound (ty := o.type) (C.und hi) h hx
    have e : (execOp a.eval o).run P X.w = .ok (.value (.int .i64 n)) X.w := by
      simp [execOp, hop, resolve, hcal, invoke, builtin, hv, ht, hrun]
    rw [e, Oper.uponIn_value]
    exact ⟨_, X, own, hK, rfl, R.set o.dst (.z _ (by unfold i64ok; simp only [maxLen] at hn; omega))⟩
  · rename_i hcal
    split at h <;> first | exact h.elim | skip
    rename_i x y t u he1 he2
    replace h := ti_inv h; obtain ⟨ui, hui, hsl, h⟩ := h
    rw [he1] at hargs
    obtain ⟨v, v', hv, hx, hy⟩ : ∃ v v', c.args.map a.eval = #[v, v'] ∧ Rep X v x ∧ Rep X v' y := by
      generalize hl : (c.args.map a.eval).toList = l at hargs
      cases hargs with | cons hx hn =>
      cases hn with | cons hy hn =>
      cases hn
      exact ⟨_, _, by apply Array.ext'; simpa using hl, hx, hy⟩
    have ht : c.argTypes = #[t, u] := by apply Array.ext'; simpa using he2
    obtain ⟨eu, hu⟩ : ∃ eu, P.underlying u = some (.slice eu) := by
      cases hk : ui.k <;> simp [TK.isSl, hk] at hsl
      exact ⟨_, C.slice hui hk⟩
    obtain ⟨st', X', own', r, hK, hrun, R'⟩ := append_sound (ty := o.type) C R hu h hx hy
    have e : (execOp a.eval o).run P X.w = .ok (.value r) X'.w := by
      simp [execOp, hop, resolve, hcal, invoke, builtin, hv, ht, hrun]
    rw [e, Oper.uponIn_value]
    exact ⟨_, X', own', hK, rfl, R'⟩
  · rename_i hcal
    split at h <;> first | exact h.elim | skip
    rename_i x y t u he1 he2
    rw [he1] at hargs
    obtain ⟨v, v', hv, hx, hy⟩ : ∃ v v', c.args.map a.eval = #[v, v'] ∧ Rep X v x ∧ Rep X v' y := by
      generalize hl : (c.args.map a.eval).toList = l at hargs
      cases hargs with | cons hx hn =>
      cases hn with | cons hy hn =>
      cases hn
      exact ⟨_, _, by apply Array.ext'; simpa using hl, hx, hy⟩
    have ht : c.argTypes = #[t, u] := by apply Array.ext'; simpa using he2
    obtain ⟨st', X', own', n, hK, hn, hrun, R'⟩ := copyTo_sound (ty := o.type) (u := u) C R h hx hy
    have e : (execOp a.eval o).run P X.w = .ok (.value (.int .i64 n)) X'.w := by
      simp [execOp, hop, resolve, hcal, invoke, builtin, hv, ht, hrun]
    rw [e, Oper.uponIn_value]
    exact ⟨_, X', own', hK, rfl, R'.set o.dst (.z _ hn)⟩
  · rename_i hcal
    split at h <;> first | exact h.elim | skip
    rename_i x t he1 he2
    rw [he1] at hargs
    obtain ⟨v, hv, hx⟩ : ∃ v, c.args.map a.eval = #[v] ∧ Rep X v x := by
      generalize hl : (c.args.map a.eval).toList = l at hargs
      cases hargs with | cons hx hn =>
      cases hn
      exact ⟨_, by apply Array.ext'; simpa using hl, hx⟩
    have ht : c.argTypes = #[t] := by apply Array.ext'; simpa using he2
    obtain ⟨st', X', own', hK, hrun, R'⟩ := clearAll_sound (ty := o.type) C R h hx
    have e : (execOp a.eval o).run P X.w = .ok (.value (.tuple #[])) X'.w := by
      simp [execOp, hop, resolve, hcal, invoke, builtin, hv, ht, hrun]
    rw [e, Oper.uponIn_value]
    exact ⟨_, X', own', hK, rfl, R'.set o.dst (.tup #[] [] rfl fun k hk => by simp at hk)⟩
  · rename_i hcal
    split at h <;> first | exact h.elim | skip
    rename_i x l he1
    obtain ⟨r, hr, h⟩ := so_inv h
    rw [he1] at hargs
    generalize hl : (c.args.map a.eval).toList = vs at hargs
    cases hargs with | @cons v _ vs _ hx hn =>
    obtain ⟨u, hu, hrun⟩ := foldMx_sound (P := P) true hr hx hn
    have hl' : (c.args.map a.eval) = (v :: vs).toArray := by apply Array.ext'; simpa using hl
    have e : (execOp a.eval o).run P X.w = .ok (.value u) X.w := by
      simp only [if_true] at hrun
      simp [execOp, hop, resolve, hcal, invoke, builtin, hl', Builtin.max_, hrun]
    rw [e, Oper.uponIn_value]
    exact ⟨_, X, own, h, rfl, R.set o.dst hu⟩
  · rename_i hcal
    split at h <;> first | exact h.elim | skip
    rename_i x l he1
    obtain ⟨r, hr, h⟩ := so_inv h
    rw [he1] at hargs
    generalize hl : (c.args.map a.eval).toList = vs at hargs
    cases hargs with | @cons v _ vs _ hx hn =>
    obtain ⟨u, hu, hrun⟩ := foldMx_sound (P := P) false hr hx hn
    have hl' : (c.args.map a.eval) = (v :: vs).toArray := by apply Array.ext'; simpa using hl
    have e : (execOp a.eval o).run P X.w = .ok (.value u) X.w := by
      simp only [Bool.false_eq_true, if_false] at hrun
      simp [execOp, hop, resolve, hcal, invoke, builtin, hl', Builtin.min_, hrun]
    rw [e, Oper.uponIn_value]
    exact ⟨_, X, own, h, rfl, R.set o.dst hu⟩
theorem ex_sound {cx : Cx} (C : COk P cx) {B : Base} (Y : ∀ l c, cx.y = some (l, c) → YOk P B l c) {o : Oper} {st : St} {K : St → Prop} (h : @ex cx st o.dst o.op ⟨K⟩) (hg : goodOp o.op = true) : OStep P B o st K := by
  unfold ex at h
  split at h
  · rename_i c hop
    exact exCall_sound C Y hop h hg
  · rename_i t len ps hop
    rw [hop] at hg
    simp only [goodOp] at hg
    refine Step.o (fun c' h' => by rw [hop] at h'; cases h') fun X own a R => ?_
    replace h := ti_inv h; obtain ⟨i, hi, h⟩ := h
    split at h <;> first | exact h.elim | skip
    rename_i e hk
    replace h := ti_inv h; obtain ⟨ei, hei, h⟩ := h
    have hgo : ∀ p ∈ ps.toList, goodO p.2 = true := fun p hp => by
      rw [Array.all_eq_true'] at hg; exact hg p (Array.mem_toList_iff.1 hp)
    have hvs : RepL X (ps.toList.map fun p => a.eval p.2) (ps.toList.map fun p => st.opd p.2) := by
      generalize ps.toList = l at hgo
      induction l with
      | nil => exact .nil
      | cons p l ih => exact .cons (R.opd (hgo p (by simp))) (ih fun q hq => hgo q (by simp [hq]))
    obtain ⟨st', Y, ys, ⟨⟨hu, hall, hm, hmm⟩, h⟩, le, ew, R', hys, hcl, e1, e2⟩ := gives_sound R h hvs
    have hl : ∀ j ∈ ps.toList.map (·.1), j < len := fun j hj => by
      obtain ⟨p, hp, rfl⟩ := List.mem_map.1 hj
      have := List.all_eq_true.1 hall p hp
      simpa using this
    obtain ⟨X', r, le', hrun, R'', hrep⟩ := buildSlice_sound C R' (C.slice hi hk) (C.T _ _ hei) (by have := hys.len; simpa using this) hys hcl hu hl hm
    have hz : (ps.toList.map (·.1)).zip (ps.toList.map fun p => a.eval p.2) = (ps.map fun (i, x) => (i, a.eval x)).toList := by
      rw [Array.toList_map]
      generalize ps.toList = l
      induction l with
      | nil => rfl
      | cons p l ih => simp [ih]
    have hz' : ((ps.toList.map (·.1)).zip (ps.toList.map fun p => a.eval p.2)).toArray = ps.map fun (i, x) => (i, a.eval x) := by
      apply Array.ext'; rw [hz]
    rw [hz', ew] at hrun
    have hmx : most ≤ maxLen := by decide
    exact ⟨_, X', own, .value r, r, h, by simp [execOp, hop, hrun], .inl rfl, R''.set o.dst (hrep (by omega))⟩
  · exact (ex1_sound C h hg).o fun c' h' => by rw [h'] at h; exact h.elim
end
end Go.Proofs.YteomkgcepiecjaaGreat.I
/- Operations that tell one value: they may be done sooner or later. -/
namespace Go.Proofs.YteomkgcepiecjaaGreat.I
open Go
set_option linter.unusedVariables false
set_option linter.unusedSimpArgs false
def Det {α : Type} (F F' : (α → Prop) → Prop) : Prop := ∀ K, F K → ∃ v, K v ∧ ∀ K', K' v → F' K'
theorem Det.ret {α : Type} (v : α) : Det (fun K : α → Prop => K v) (fun K => K v) := fun K h => ⟨v, h, fun _ h => h⟩
theorem Det.no {α : Type} (F : (α → Prop) → Prop) : Det (fun _ => False) F := fun _ h => h.elim
theorem Det.and {α : Type} {p q : Prop} {F F' : (α → Prop) → Prop} (hp : p → q) (h : Det F F') : Det (fun K => p ∧ F K) (fun K => q ∧ F' K) := fun K hh =>
  let ⟨v, h1, h2⟩ := h K hh.2
  ⟨v, h1, fun K' hv => ⟨hp hh.1, h2 K' hv⟩⟩
theorem Det.so {α β : Type} {x : Option β} {G G' : β → (α → Prop) → Prop} (h : ∀ a, Det (G a) (G' a)) : Det (fun K => @so _ x ⟨fun a => G a K⟩) (fun K => @I.so _ x ⟨fun a => G' a K⟩) := by
  intro K hh
  obtain ⟨a, rfl, hh⟩ := so_inv hh
  exact h a K hh
theorem Det.ti {α : Type} {cx : Cx} {t : TypeId} {G G' : TI → (α → Prop) → Prop} (h : ∀ a, Det (G a) (G' a)) : Det (fun K => @ti cx t ⟨fun a => G a K⟩) (fun K => @I.ti cx t ⟨fun a => G' a K⟩) := Det.so h
theorem Det.bind {α β : Type} {F F' : (α → Prop) → Prop} {G G' : α → (β → Prop) → Prop} (h : Det F F') (g : ∀ a, Det (G a) (G' a)) : Det (fun K => F (fun a => G a K)) (fun K => F' (fun a => G' a K)) := by
  intro K hh
  obtain ⟨a, ha, hF⟩ := h _ hh
  obtain ⟨b, hb, hG⟩ := g a K ha
  exact ⟨b, hb, fun K' hK => hF _ (hG K' hK)⟩
structure HSame (H H' : Hm) : Prop where
  es : H'.es = H.es
  ag : H'.ag = H.ag
  len : H'.els.length = H.els.length
  pl : H.ag = false → H'.els = H.els
  cl : ∀ j, (H'.els.getD j .u).cells = (H.els.getD j .u).cells
theorem HSame.refl (H : Hm) : HSame H H := ⟨rfl, rfl, rfl, fun _ => rfl, fun _ => rfl⟩
theorem HSame.fz (H : Hm) (z : Bool) : HSame H ⟨H.es, H.ag, H.els, z⟩ := ⟨rfl, rfl, rfl, fun _ => rfl, fun _ => rfl⟩
theorem HSame.trans {H H' H'' : Hm} (h : HSame H H') (g : HSame H' H'') : HSame H H'' :=
  ⟨g.es.trans h.es, g.ag.trans h.ag, g.len.trans h.len, fun e => (g.pl (h.ag.trans e)).trans (h.pl e), fun j => (g.cl j).trans (h.cl j)⟩
def MemKept (m m' : Mem) : Prop := ∀ h H, m.get h = some H → ∃ H', m'.get h = some H' ∧ HSame H H'
theorem MemKept.refl (m : Mem) : MemKept m m := fun _ H e => ⟨H, e, .refl _⟩
theorem MemKept.trans {m m' m'' : Mem} (h : MemKept m m') (g : MemKept m' m'') : MemKept m m'' := fun k H e => by
  obtain ⟨H', e1, s1⟩ := h k H e
  obtain ⟨H'', e2, s2⟩ := g k _ e1
  exact ⟨H'', e2, s1.trans s2⟩
theorem Det.home {α : Type} {m m' : Mem} (hm : MemKept m m') {h : Nat} {G G' : Hm → (α → Prop) → Prop} (g : ∀ H H', HSame H H' → Det (G H) (G' H')) :
    Det (fun K => @I.so _ (m.get h) ⟨fun H => G H K⟩) (fun K => @I.so _ (m'.get h) ⟨fun H => G' H K⟩) := by
  intro K hh
  obtain ⟨H, e, hh⟩ := so_inv hh
  obtain ⟨H', e', s⟩ := hm h H e
  obtain ⟨v, h1, h2⟩ := g H H' s K hh
  exact ⟨v, h1, fun K' hv => by rw [e']; exact h2 K' hv⟩
theorem det_part (i : TI) (cs : List V) (off : Nat) : Det (fun K => @part i cs off ⟨K⟩) (fun K => @part i cs off ⟨K⟩) := by
  unfold part
  refine .and id ?_
  cases i.isAgg <;> exact .ret _
theorem det_addr (x : V) (d : Nat) : Det (fun K => @addr x d ⟨K⟩) (fun K => @addr x d ⟨K⟩) := by
  unfold addr
  cases x <;> first | exact .ret _ | exact .no _
theorem det_fieldOf (cx : Cx) (t : TypeId) (f : Nat) {α : Type} {G G' : Nat → TypeId → (α → Prop) → Prop} (h : ∀ a b, Det (G a b) (G' a b)) :
    Det (fun K => @fieldOf cx t f ⟨fun a b => G a b K⟩) (fun K => @fieldOf cx t f ⟨fun a b => G' a b K⟩) := by
  unfold fieldOf
  refine .ti fun i => ?_
  cases i.k <;> first | exact .so fun p => h _ _ | exact .no _
theorem det_indexAddr (cx : Cx) {m m' : Mem} (hm : MemKept m m') (t : TypeId) (x ix : V) : Det (fun K => @indexAddr cx m t x ix ⟨K⟩) (fun K => @indexAddr cx m' t x ix ⟨K⟩) := by
  unfold indexAddr
  refine .ti fun i => ?_
  cases i.k <;> first | exact .no _ | skip
  · refine .so fun a => .ti fun ei => ?_
    cases x <;> first | exact .no _ | skip
    · exact .and id (.ret _)
    · exact .and id (.ret _)
    · exact .home hm fun H H' s => .and (by rw [s.len, s.es]; exact id) (.ret _)
    · exact .and id (.and id (det_addr _ _))
    · exact .and id (.ret _)
  · exact .so fun a => .ti fun ei => .and id (det_addr _ _)
theorem det_load (cx : Cx) {st st' : St} (hm : MemKept st.mem st'.mem) (t : TypeId) (x : V) (ho : (∀ i o, x ≠ .obj i o) ∨ OmKept st.om st'.om) : Det (fun K => @load cx st t x ⟨K⟩) (fun K => @load cx st' t x ⟨K⟩) := by
  unfold load
  refine .ti fun i => ?_
  cases x <;> first | exact .no _ | skip
  · refine .home hm fun H H' s => .and (by rw [s.len, s.es]; exact id) ?_
    unfold elemGet
    rw [s.ag]
    cases hag : H.ag
    · rw [s.pl hag]
      exact .and id (.ret _)
    · simp only [s.cl]
      exact det_part _ _ _
  · exact det_part _ _ _
  · rcases ho with ho | ho
    · exact absurd rfl (ho _ _)
    · intro K h
      obtain ⟨cs, hcs, h⟩ := so_inv h
      obtain ⟨v, h1, h2⟩ := det_part _ _ _ K h
      refine ⟨v, h1, fun K' hK => ?_⟩
      show @so _ _ ⟨_⟩
      rw [ho _ _ hcs]; exact h2 K' hK
theorem det_bnd (x : Option V) (d : Int) : Det (fun K => @bnd x d ⟨K⟩) (fun K => @bnd x d ⟨K⟩) := by
  unfold bnd
  cases x with
  | none => exact .ret _
  | some y => cases y <;> first | exact .ret _ | exact .no _
theorem det_slice (cx : Cx) (t : TypeId) (x : V) (lo hi mx : Option V) : Det (fun K => @slice cx t x lo hi mx ⟨K⟩) (fun K => @slice cx t x lo hi mx ⟨K⟩) := by
  unfold slice
  refine .ti fun i => ?_
  cases i.k <;> first | exact .no _ | skip
  · refine .and id (.ti fun ei => ?_)
    unfold sliceS
    cases x <;> first | exact .no _ | skip
    · exact .bind (det_bnd _ _) fun a => .bind (det_bnd _ _) fun b => .and id (.ret _)
    · exact .bind (det_bnd _ _) fun a => .bind (det_bnd _ _) fun b => .and id (.ret _)
    · exact .bind (det_bnd _ _) fun a => .bind (det_bnd _ _) fun b => .and id (.ret _)
    · exact .bind (det_bnd _ _) fun a => .bind (det_bnd _ _) fun b => .and id (.bind (det_addr _ _) fun q => .ret _)
    · exact .bind (det_bnd _ _) fun a => .bind (det_bnd _ _) fun b => .and id (.ret _)
  · exact .ti fun ei => .bind (det_bnd _ _) fun a => .bind (det_bnd _ _) fun b => .bind (det_bnd _ _) fun c => .and id (.bind (det_addr _ _) fun q => .ret _)
theorem det_placeS (cx : Cx) (fs : List (Nat × TypeId)) (zs : List V) : ∀ l, Det (fun K => @placeS cx fs zs l ⟨K⟩) (fun K => @placeS cx fs zs l ⟨K⟩)
  | [] => .ret _
  | (j, v) :: l => by
    simp only [placeS]
    exact .so fun p => .ti fun fi => .and id (.bind (det_placeS cx fs zs l) fun r => .ret _)
theorem det_placeA (ei : TI) (zs : List V) : ∀ l, Det (fun K => @placeA ei zs l ⟨K⟩) (fun K => @placeA ei zs l ⟨K⟩)
  | [] => .ret _
  | (j, v) :: l => by
    simp only [placeA]
    exact .and id (.bind (det_placeA ei zs l) fun r => .ret _)
theorem det_build (cx : Cx) (t : TypeId) (ps : List (Nat × V)) : Det (fun K => @build cx t ps ⟨K⟩) (fun K => @build cx t ps ⟨K⟩) := by
  unfold build
  refine .ti fun i => ?_
  cases i.k <;> first | exact .no _ | skip
  · exact .bind (det_placeS _ _ _ _) fun r => .ret _
  · exact .ti fun ei => .bind (det_placeA _ _ _) fun r => .ret _
theorem det_nilCheck (cx : Cx) (x : V) : Det (fun K => @nilCheck cx x ⟨K⟩) (fun K => @nilCheck cx x ⟨K⟩) := by
  unfold nilCheck
  split <;> first | exact .ret _ | exact .no _ | exact .so fun _ => .ret _
theorem det_bin (op : BinOp) (t : TK) (x y : V) (h : t.isSl = false) : Det (fun K => @bin op t x y ⟨K⟩) (fun K => @bin op t x y ⟨K⟩) := by
  unfold bin
  cases op <;> cases x <;> cases y <;> first | exact .no _ | exact .ret _ | exact .and id (.ret _) | exact .and id (.and id (.ret _)) | exact fun K hh => absurd hh.1 (by simp [h])
theorem det_un (op : UnOp) (x : V) : Det (fun K => @un op x ⟨K⟩) (fun K => @un op x ⟨K⟩) := by
  unfold un
  cases op <;> cases x <;> first | exact .no _ | exact .ret _ | exact .and id (.ret _)
theorem det_conv (d : TK) (x : V) : Det (fun K => @conv d x ⟨K⟩) (fun K => @conv d x ⟨K⟩) := by
  unfold conv
  cases d <;> first | (cases x <;> exact .no _) | skip
  rename_i k
  cases x <;> cases k <;> first | exact .no _ | exact .ret _ | exact .and id (.ret _)
theorem det_lenV (t : TK) (x : V) : Det (fun K => @lenV t x ⟨K⟩) (fun K => @lenV t x ⟨K⟩) := by
  unfold lenV
  cases x <;> first | exact .no _ | exact .and id (.ret _)
end Go.Proofs.YteomkgcepiecjaaGreat.I
/- The same for whole operations; and that an operation goes its way whatever lies in slots that it doesn't look at. -/
namespace Go.Proofs.YteomkgcepiecjaaGreat.I
open Go
def isP (cx : Cx) : Op → Bool
  | .move _ | .assign _ | .pick .. | .build .. | .load .. | .nilCheck _ | .unOp .. | .convert .. | .makeInterface .. | .makeFunc .. | .slice .. | .fieldAddr .. | .field .. | .indexAddr .. | .index .. | .extract .. => true
  | .binOp _ t _ _ _ => match cx.T t with | some i => !i.k.isSl | none => false
  | .call c => match c.callee with | .builtin .len | .builtin .max | .builtin .min => true | _ => false
  | _ => false
def readsM : Op → Bool
  | .load .. | .indexAddr .. => true
  | _ => false
def readsO : Op → Bool
  | .load .. => true
  | _ => false
structure Alike (p : Op) (fl : Bool) (st st' : St) : Prop where
  op : ∀ o ∈ p.operands, st'.opd o = st.opd o
  mem : readsM p = true → MemKept st.mem st'.mem
  om : readsO p = true → fl = true ∨ OmKept st.om st'.om
theorem opds_alike {st st' : St} {ps : List (Nat × Operand)} (h : ∀ p ∈ ps, st'.opd p.2 = st.opd p.2) : opds st' ps = opds st ps := by
  unfold opds
  exact List.map_congr_left fun p hp => by rw [h p hp]
theorem det_ex (cx : Cx) {fl : Bool} {st st' : St} {dst : Option Tmp} {op : Op} (hP : isP cx op = true) (A : Alike op fl st st') {K : St → Prop} (h : @exR cx fl st dst op ⟨K⟩) :
    ∃ v, K (st.set dst v) ∧ ∀ K' : St → Prop, K' (st'.set dst v) → @exR cx fl st' dst op ⟨K'⟩ := by
  obtain ⟨hn, h⟩ := h
  have fin : ∀ (F F' : (V → Prop) → Prop), Det F F' → (∀ K : St → Prop, @ex cx st dst op ⟨K⟩ = F fun v => K (st.set dst v)) → (∀ K : St → Prop, @ex cx st' dst op ⟨K⟩ = F' fun v => K (st'.set dst v)) →
      seen fl st' op →
      ∃ v, K (st.set dst v) ∧ ∀ K' : St → Prop, K' (st'.set dst v) → @exR cx fl st' dst op ⟨K'⟩ := by
    intro F F' hD e1 e2 hn'
    rw [e1] at h
    obtain ⟨v, h1, h2⟩ := hD _ h
    exact ⟨v, h1, fun K' hK => ⟨hn', by rw [e2]; exact h2 _ hK⟩⟩
  have tr : ∀ fl : Bool, (∀ t a, op ≠ .load t a) → seen fl st' op := by
    intro fl hne
    unfold seen
    split
    · exact absurd rfl (hne _ _)
    · rename_i c
      unfold notOw
      split
      · rename_i hc
        simp [isP, hc] at hP
      · trivial
    · trivial
  have ho := A.op
  cases op <;> simp only [isP] at hP <;> try (exact absurd hP Bool.false_ne_true)
  case move x => exact fin (fun K => K (st.opd x)) (fun K => K (st.opd x)) (.ret _) (fun _ => rfl) (fun K => by rw [← ho x (by simp [Op.operands])]; rfl) (tr _ (by simp))
  case assign x => exact fin (fun K => K (st.opd x)) (fun K => K (st.opd x)) (.ret _) (fun _ => rfl) (fun K => by rw [← ho x (by simp [Op.operands])]; rfl) (tr _ (by simp))
  case pick c a b =>
    refine fin (fun K => @pickB (st.opd c) ⟨K (st.opd a)⟩ ⟨K (st.opd b)⟩) (fun K => @pickB (st.opd c) ⟨K (st.opd a)⟩ ⟨K (st.opd b)⟩) ?_ (fun _ => rfl)
      (fun K => by rw [← ho c (by simp [Op.operands]), ← ho a (by simp [Op.operands]), ← ho b (by simp [Op.operands])]; rfl) (tr _ (by simp))
    intro K h
    obtain ⟨x, hx, h1, h2⟩ := pickB_inv h
    rw [hx]
    cases x
    · exact ⟨_, h2 rfl, fun K' hK => ⟨nofun, fun _ => hK⟩⟩
    · exact ⟨_, h1 rfl, fun K' hK => ⟨fun _ => hK, nofun⟩⟩
  case build t ps =>
    have e : opds st' ps.toList = opds st ps.toList := opds_alike fun p hp => ho p.2 (by simp only [Op.operands]; exact List.mem_toArray.2 (List.mem_map.2 ⟨p, hp, rfl⟩))
    exact fin _ _ (det_build cx t (opds st ps.toList)) (fun _ => rfl) (fun K => by rw [← e]; rfl) (tr _ (by simp))
  case load t a =>
    have e := ho a (by simp [Op.operands])
    refine fin _ _ (det_load cx (A.mem rfl) t (st.opd a) ?_) (fun _ => rfl) (fun K => by rw [← e]; rfl) (by unfold seen at hn ⊢; cases fl <;> simp_all)
    rcases A.om rfl with hf | hf
    · subst hf
      left
      intro i o hx
      simp [seen, hx, notObj] at hn
    · exact .inr hf
  case nilCheck x => exact fin _ _ (det_nilCheck cx (st.opd x)) (fun _ => rfl) (fun K => by rw [← ho x (by simp [Op.operands])]; rfl) (tr _ (by simp))
  case unOp op t x => exact fin _ _ (det_un op (st.opd x)) (fun _ => rfl) (fun K => by rw [← ho x (by simp [Op.operands])]; rfl) (tr _ (by simp))
  case convert s d x => exact fin (fun K => @ti cx s ⟨fun _ => @ti cx d ⟨fun di => @conv di.k (st.opd x) ⟨K⟩⟩⟩) _ (.ti fun _ => .ti fun di => det_conv di.k (st.opd x)) (fun _ => rfl) (fun K => by rw [← ho x (by simp [Op.operands])]; rfl) (tr _ (by simp))
  case makeInterface t x => exact fin (fun K => @ti cx t ⟨fun i => i.cn = true ∧ K (.ifc t (st.opd x))⟩) _ (.ti fun _ => .and id (.ret _)) (fun _ => rfl) (fun K => by rw [← ho x (by simp [Op.operands])]; rfl) (tr _ (by simp))
  case makeFunc f fs cs =>
    have e1 : fs.toList.map st'.opd = fs.toList.map st.opd := List.map_congr_left fun x hx => ho x (by simp only [Op.operands]; exact Array.mem_append.2 (.inl (Array.mem_toList_iff.1 hx)))
    have e2 : cs.toList.map st'.opd = cs.toList.map st.opd := List.map_congr_left fun x hx => ho x (by simp only [Op.operands]; exact Array.mem_append.2 (.inr (Array.mem_toList_iff.1 hx)))
    exact fin (fun K => K (.fn f (fs.toList.map st.opd) (cs.toList.map st.opd))) _ (.ret _) (fun _ => rfl) (fun K => by rw [← e1, ← e2]; rfl) (tr _ (by simp))
  case slice t x lo hi mx =>
    have ex := ho x (by simp [Op.operands])
    have opt : ∀ y : Option Operand, (∀ o ∈ y, o ∈ (Op.slice t x lo hi mx).operands) → y.map st'.opd = y.map st.opd := by
      intro y hy
      cases y with
      | none => rfl
      | some o => simp [ho o (hy o rfl)]
    have e1 := opt lo (fun o h => by simp only [Op.operands]; cases lo <;> simp_all)
    have e2 := opt hi (fun o h => by simp only [Op.operands]; cases hi <;> simp_all)
    have e3 := opt mx (fun o h => by simp only [Op.operands]; cases mx <;> simp_all)
    exact fin _ _ (det_slice cx t (st.opd x) (lo.map st.opd) (hi.map st.opd) (mx.map st.opd)) (fun _ => rfl) (fun K => by rw [← ex, ← e1, ← e2, ← e3]; rfl) (tr _ (by simp))
  case fieldAddr t x f =>
    exact fin (fun K => @fieldAddr cx t (st.opd x) f ⟨K⟩) (fun K => @fieldAddr cx t (st.opd x) f ⟨K⟩) (by unfold fieldAddr; exact det_fieldOf cx t f fun a b => det_addr _ _) (fun _ => rfl) (fun K => by rw [← ho x (by simp [Op.operands])]; rfl) (tr _ (by simp))
  case field t x f =>
    refine fin (fun K => @fieldOf cx t f ⟨fun off ft => @ti cx ft ⟨fun fi => match st.opd x with | .agg cs => @part fi cs off ⟨K⟩ | _ => False⟩⟩) (fun K => @fieldOf cx t f ⟨fun off ft => @ti cx ft ⟨fun fi => match st.opd x with | .agg cs => @part fi cs off ⟨K⟩ | _ => False⟩⟩)
      (det_fieldOf cx t f fun off ft => .ti fun fi => ?_) (fun _ => rfl) (fun K => by rw [← ho x (by simp [Op.operands])]; rfl) (tr _ (by simp))
    cases st.opd x <;> first | exact .no _ | exact det_part _ _ _
  case indexAddr t x ix => exact fin _ _ (det_indexAddr cx (A.mem rfl) t (st.opd x) (st.opd ix)) (fun _ => rfl) (fun K => by rw [← ho x (by simp [Op.operands]), ← ho ix (by simp [Op.operands])]; rfl) (tr _ (by simp))
  case index t x ix =>
    refine fin (fun K => @indexV cx t (st.opd x) (st.opd ix) ⟨K⟩) (fun K => @indexV cx t (st.opd x) (st.opd ix) ⟨K⟩) ?_ (fun _ => rfl) (fun K => by rw [← ho x (by simp [Op.operands]), ← ho ix (by simp [Op.operands])]; rfl) (tr _ (by simp))
    unfold indexV
    refine .ti fun i => ?_
    cases i.k <;> first | exact .no _ | skip
    · cases st.opd x <;> first | exact .no _ | skip
      cases st.opd ix <;> first | exact .no _ | skip
      exact .ti fun ei => .and id (det_part _ _ _)
    · cases st.opd x <;> first | exact .no _ | skip
      cases st.opd ix <;> first | exact .no _ | exact .and id (.ret _)
  case extract x j =>
    refine fin (fun K => match st.opd x with | .tup vs => @so _ vs[j]? ⟨K⟩ | _ => False) (fun K => match st.opd x with | .tup vs => @so _ vs[j]? ⟨K⟩ | _ => False) ?_ (fun _ => rfl) (fun K => by rw [← ho x (by simp [Op.operands])]; rfl) (tr _ (by simp))
    cases st.opd x <;> first | exact .no _ | exact .so fun v => .ret v
  case binOp op t x y yt =>
    refine fin (fun K => @binA cx op t (st.opd x) (st.opd y) (isCon x || isCon y) ⟨K⟩) (fun K => @binA cx op t (st.opd x) (st.opd y) (isCon x || isCon y) ⟨K⟩) ?_ (fun _ => rfl)
      (fun K => by rw [← ho x (by simp [Op.operands]), ← ho y (by simp [Op.operands])]; rfl) (tr _ (by simp))
    unfold binA
    split
    · exact .so fun ks => .and id (.ret _)
    · exact .so fun ks => .and id (.ret _)
    · exact .ti fun i => .and id (.ret _)
    · exact .ti fun i => .and id (.ret _)
    cases ht : cx.T t with
    | none => simp [ht] at hP
    | some i =>
      simp only [ht, Bool.not_eq_true'] at hP
      unfold ti
      rw [ht]
      exact det_bin _ i.k _ _ hP
  case call c =>
    have e : c.args.toList.map st'.opd = c.args.toList.map st.opd := List.map_congr_left fun x hx => ho x (by simp only [Op.operands, Call.operands]; split <;> simp_all)
    cases hc : c.callee with
    | value f => simp [hc] at hP
    | invoke r m => simp [hc] at hP
    | builtin b =>
      cases b <;> simp only [hc] at hP <;> try (exact absurd hP Bool.false_ne_true)
      · refine fin (fun K => match c.args.toList.map st.opd, c.argTypes.toList with | [x], [t] => @ti cx t ⟨fun i => @lenV i.k x ⟨fun n => K (.z n)⟩⟩ | _, _ => False) (fun K => match c.args.toList.map st.opd, c.argTypes.toList with | [x], [t] => @ti cx t ⟨fun i => @lenV i.k x ⟨fun n => K (.z n)⟩⟩ | _, _ => False)
          ?_ (fun K => by simp only [ex, exCall, hc]; rfl) (fun K => by rw [← e]; simp only [ex, exCall, hc]; rfl) (tr _ (by simp))
        split
        · exact .ti fun i => .bind (det_lenV _ _) fun n => .ret _
        · exact .no _
      · refine fin (fun K => match c.args.toList.map st.opd with | x :: l => @so _ (foldMx true x l) ⟨K⟩ | _ => False) (fun K => match c.args.toList.map st.opd with | x :: l => @so _ (foldMx true x l) ⟨K⟩ | _ => False)
          ?_ (fun K => by simp only [ex, exCall, hc]; rfl) (fun K => by rw [← e]; simp only [ex, exCall, hc]; rfl) (tr _ (by simp))
        split
        · exact .so fun v => .ret v
        · exact .no _
      · refine fin (fun K => match c.args.toList.map st.opd with | x :: l => @so _ (foldMx false x l) ⟨K⟩ | _ => False) (fun K => match c.args.toList.map st.opd with | x :: l => @so _ (foldMx false x l) ⟨K⟩ | _ => False)
          ?_ (fun K => by simp only [ex, exCall, hc]; rfl) (fun K => by rw [← e]; simp only [ex, exCall, hc]; rfl) (tr _ (by simp))
        split
        · exact .so fun v => .ret v
        · exact .no _
end Go.Proofs.YteomkgcepiecjaaGreat.I
/- An operation goes its way whatever lies in slots that it doesn't look at. -/
namespace Go.Proofs.YteomkgcepiecjaaGreat.I
open Go
set_option linter.unusedVariables false
def muts : Op → Bool
  | .store .. => true
  | .call c => match c.callee with | .builtin .append => true | .builtin .copy => true | .builtin .clear => true | _ => false
  | _ => false
def effs (cx : Cx) : Op → Bool
  | .store .. => true
  | .call c => match c.callee with | .value (.func f) => !cx.qs.contains f | .value _ => true | .builtin .append => true | .builtin .copy => true | .builtin .clear => true | .invoke _ _ => true | _ => false
  | _ => false
theorem so_of {α : Type} {x : Option α} {a : α} {K : α → Prop} (h : x = some a) (hK : K a) : @so α x ⟨K⟩ := by rw [h]; exact hK
theorem ti_of {cx : Cx} {t : TypeId} {i : TI} {K : TI → Prop} (h : cx.T t = some i) (hK : K i) : @ti cx t ⟨K⟩ := so_of h hK
def out (st : St) (dst : Option Tmp) (v : V) (m : Mem) (om : Om) : St := (⟨st.env, m, om⟩ : St).set dst v
theorem memKept_cons {m : Mem} {d : Nat} (h : m.get d = none) (H : Hm) : MemKept m ((d, H) :: m) := fun g G e => by
  refine ⟨G, ?_, .refl _⟩
  rw [mem_get_cons]
  by_cases e' : g = d
  · subst e'; rw [h] at e; cases e
  · simp [e', e]
theorem memKept_fz {m : Mem} {h : Nat} {H : Hm} (e : m.get h = some H) (z : Bool) : MemKept m (m.put h ⟨H.es, H.ag, H.els, z⟩) := fun g G eg => by
  rw [mem_get_put]
  by_cases e' : g = h
  · subst e'; rw [e] at eg; injection eg with eg; subst eg
    exact ⟨⟨_, _, _, z⟩, by simp, .fz _ _⟩
  · exact ⟨G, by simp [e', eg], .refl _⟩
theorem home_frame {st st' : St} {dst : Option Tmp} {es : Nat} {ag : Bool} {els : List V} {fz : Bool} {v : Nat → V} {K K' : St → Prop} (hm : st'.mem = st.mem) (hom : st'.om = st.om)
    (hK : ∀ v m, MemKept st.mem m → K (out st dst v m st.om) → K' (out st' dst v m st.om)) (h : @home st dst es ag els fz v ⟨K⟩) : @home st' dst es ag els fz v ⟨K'⟩ := by
  obtain ⟨d, rfl, hd, h⟩ := home_inv h
  refine ⟨by rw [hm]; exact hd, ?_⟩
  rw [hm, hom]
  exact hK (v d) _ (memKept_cons hd _) h
theorem give1_frame {st st' : St} {x : V} {K K' : St → V → Prop} (hm : st'.mem = st.mem) (hom : st'.om = st.om)
    (hK : ∀ m y, MemKept st.mem m → K ⟨st.env, m, st.om⟩ y → K' ⟨st'.env, m, st.om⟩ y) (h : @give1 st x ⟨K⟩) : @give1 st' x ⟨K'⟩ := by
  have base : ∀ y, K st y → K' st' y := fun y hy => by
    have := hK st.mem y (.refl _) hy
    rw [← hm, ← hom] at this
    exact this
  unfold give1 at h ⊢
  split at h
  · obtain ⟨H, hH, h1, h⟩ := so_inv h
    rw [hm, hom]
    refine so_of hH ⟨h1, ?_⟩
    exact hK _ _ (memKept_fz hH true) h
  · exact base _ h
  · exact base _ h
  · exact ⟨h.1, base _ h.2⟩
theorem gives1_frame : ∀ {xs : List V} {st st' : St} {K K' : St → List V → Prop}, st'.mem = st.mem → st'.om = st.om →
    (∀ m ys, MemKept st.mem m → K ⟨st.env, m, st.om⟩ ys → K' ⟨st'.env, m, st.om⟩ ys) → @gives1 st xs ⟨K⟩ → @gives1 st' xs ⟨K'⟩
  | [], st, st', K, K', hm, hom, hK, h => by
    have := hK st.mem [] (.refl _) h
    rw [← hm, ← hom] at this
    exact this
  | x :: xs, st, st', K, K', hm, hom, hK, h => by
    simp only [gives1] at h ⊢
    refine give1_frame hm hom (fun m y hk h => ?_) h
    refine gives1_frame (st := ⟨st.env, m, st.om⟩) (st' := ⟨st'.env, m, st.om⟩) rfl rfl (fun m' ys hk' h => ?_) h
    exact hK m' (y :: ys) (hk.trans hk') h
theorem give_frame {st st' : St} {x : V} {K K' : St → V → Prop} (hm : st'.mem = st.mem) (hom : st'.om = st.om)
    (hK : ∀ m y, MemKept st.mem m → K ⟨st.env, m, st.om⟩ y → K' ⟨st'.env, m, st.om⟩ y) (h : @give st x ⟨K⟩) : @give st' x ⟨K'⟩ := by
  unfold give at h ⊢
  split at h
  · exact gives1_frame hm hom (fun m ys hk h => hK m _ hk h) h
  · exact give1_frame hm hom hK h
theorem thing_frame {st st' : St} {dst : Option Tmp} {x : V} {K K' : St → Prop} (hm : st'.mem = st.mem) (hom : st'.om = st.om)
    (hK : ∀ v m om, MemKept st.mem m → OmKept st.om om → K (out st dst v m om) → K' (out st' dst v m om)) (h : @thing st dst x ⟨K⟩) : @thing st' dst x ⟨K'⟩ := by
  unfold thing at h ⊢
  refine give_frame hm hom (fun m y hk h => ?_) h
  obtain ⟨d, rfl, h⟩ := so_inv h
  refine fun id hid => hK (.obj id 0) m (st.om.put id y.cells) hk (fun i cs hi => ?_) (h id hid)
  simp only [Om.put]
  split
  · rename_i e; subst e; rw [hid] at hi; cases hi
  · exact hi
theorem gives_frame : ∀ {xs : List V} {st st' : St} {K K' : St → List V → Prop}, st'.mem = st.mem → st'.om = st.om →
    (∀ m ys, MemKept st.mem m → K ⟨st.env, m, st.om⟩ ys → K' ⟨st'.env, m, st.om⟩ ys) → @gives st xs ⟨K⟩ → @gives st' xs ⟨K'⟩
  | [], st, st', K, K', hm, hom, hK, h => by
    have := hK st.mem [] (.refl _) h
    rw [← hm, ← hom] at this
    exact this
  | x :: xs, st, st', K, K', hm, hom, hK, h => by
    simp only [gives] at h ⊢
    refine give_frame hm hom (fun m y hk h => ?_) h
    refine gives_frame (st := ⟨st.env, m, st.om⟩) (st' := ⟨st'.env, m, st.om⟩) rfl rfl (fun m' ys hk' h => ?_) h
    exact hK m' (y :: ys) (hk.trans hk') h
theorem rd_mono {m : Mem} {om : Om} {x : V} {K K' : List V → Prop} (hK : ∀ xs, K xs → K' xs) (h : @rd m om x ⟨K⟩) : @rd m om x ⟨K'⟩ := by
  unfold rd at h ⊢
  cases x with
  | arr p len => cases p <;> first | exact h.elim | (obtain ⟨H, hH, h1, h⟩ := so_inv h; exact so_of hH ⟨h1, hK _ h⟩)
  | _ => first | exact h.elim | exact hK _ h | (obtain ⟨H, hH, h1, h⟩ := so_inv h; exact so_of hH ⟨h1, hK _ h⟩)
theorem fresh_frame {st st' : St} {dst : Option Tmp} {ei : TI} {xs : List V} {K K' : St → Prop} (hm : st'.mem = st.mem) (hom : st'.om = st.om)
    (hK : ∀ v m om, OmKept st.om om → K (out st dst v m om) → K' (out st' dst v m om)) (h : @fresh st dst ei xs ⟨K⟩) : @fresh st' dst ei xs ⟨K'⟩ := by
  obtain ⟨h1, h⟩ := h
  refine ⟨h1, ?_⟩
  obtain ⟨d, rfl, h⟩ := so_inv h
  refine fun id hid cap hc hl => ?_
  rw [hom] at hid ⊢
  rw [hm]
  exact hK _ st.mem _ (.put hid (.refl _)) (h id hid cap hc hl)
theorem bin_mono {op : BinOp} {t : TK} {x y : V} {K K' : V → Prop} (hK : ∀ v, K v → K' v) (h : @bin op t x y ⟨K⟩) : @bin op t x y ⟨K'⟩ := by
  unfold bin at h ⊢
  split at h <;> first | exact h.elim | exact hK _ h | exact ⟨h.1, hK _ h.2⟩ | exact ⟨h.1, h.2.1, hK _ h.2.2⟩ | exact ⟨h.1, fun e => hK _ (h.2.1 e), hK _ h.2.2⟩
theorem binA_mono {cx : Cx} {op : BinOp} {t : TypeId} {x y : V} {c : Bool} {K K' : V → Prop} (hK : ∀ v, K v → K' v) (h : @binA cx op t x y c ⟨K⟩) : @binA cx op t x y c ⟨K'⟩ := by
  unfold binA at h ⊢
  split at h
  · obtain ⟨ks, hk, f, h⟩ := so_inv h
    exact so_of hk ⟨f, hK _ h⟩
  · obtain ⟨ks, hk, f, h⟩ := so_inv h
    exact so_of hk ⟨f, hK _ h⟩
  · obtain ⟨i, hi, f, h⟩ := ti_inv h
    exact ti_of hi ⟨f, hK _ h⟩
  · obtain ⟨i, hi, f, h⟩ := ti_inv h
    exact ti_of hi ⟨f, hK _ h⟩
  · obtain ⟨i, hi, h⟩ := ti_inv h
    exact ti_of hi (bin_mono hK h)
theorem call_frame {cx : Cx} (hmono : ∀ f c, lk cx.cs f = some c → Mono c) {q : Prop} {st st' : St} {dst : Option Tmp} {f : FuncId} {args : List V} {K K' : St → Prop} (hm : st'.mem = st.mem) (hom : st'.om = st.om)
    (hq : q → ∀ c, lk cx.cs f = some c → Quiet c) (hK : ∀ v m om, MemKept st.mem m → (q → OmKept st.om om) → K (out st dst v m om) → K' (out st' dst v m om)) (h : @call cx st dst f args ⟨K⟩) : @call cx st' dst f args ⟨K'⟩ := by
  unfold call at h ⊢
  refine gives_frame hm hom (fun m ys hk h => ?_) h
  obtain ⟨c, hc, h⟩ := so_inv h
  refine so_of hc ?_
  by_cases hqq : q
  · exact hmono f c hc ys st.om _ _ (fun r om h hw => hK r m om hk (fun _ => h.1) (h.2 hw)) (hq hqq c hc ys st.om _ h)
  · exact hmono f c hc ys st.om _ _ (fun r om h hw => hK r m om hk (fun e => absurd e hqq) (h hw)) h
theorem append_frame {cx : Cx} {st st' : St} {dst : Option Tmp} {t : TypeId} {x y : V} {K K' : St → Prop} (hm : st'.mem = st.mem) (hom : st'.om = st.om)
    (hK : ∀ v m om, K (out st dst v m om) → K' (out st' dst v m om)) (h : @append cx st dst t x y ⟨K⟩) : @append cx st' dst t x y ⟨K'⟩ := by
  unfold append at h ⊢
  obtain ⟨i, hi, h⟩ := ti_inv h
  refine ti_of hi ?_
  split at h <;> first | exact h.elim | skip
  rename_i e hk
  obtain ⟨ei, hei, h⟩ := ti_inv h
  refine ti_of hei ?_
  rw [hm, hom]
  refine rd_mono (fun ys h => ⟨h.1, ?_⟩) h
  obtain ⟨_, h⟩ := h
  have same : ∀ v, K (st.set dst v) → K' (st'.set dst v) := fun v h => by
    have := hK v st.mem st.om h
    unfold out at this
    rw [← hm, ← hom] at this
    exact this
  cases x <;> first | exact h.elim | skip
  · cases hob : isOb cx dst <;> simp only [hob] at h ⊢
    · exact ⟨h.1, home_frame hm hom (fun v m _ h => hK v m _ h) h.2⟩
    · exact ⟨h.1, fun e => same _ (h.2.1 e), fun e => fresh_frame hm hom (fun v m om _ h => hK v m om h) (h.2.2 e)⟩
  · cases hob : isOb cx dst <;> simp only [hob] at h ⊢
    · exact ⟨h.1, home_frame hm hom (fun v m _ h => hK v m _ h) h.2⟩
    · exact ⟨fun e => same _ (h.1 e), fun e => fresh_frame hm hom (fun v m om _ h => hK v m om h) (h.2 e)⟩
  · obtain ⟨H, hH, h1, h⟩ := so_inv h
    exact so_of hH ⟨h1, hK _ _ _ h⟩
  · obtain ⟨cs, hcs, h1, h2, h3⟩ := so_inv h
    refine so_of hcs ⟨h1, fun e => hK (.ow _ _ _ _) st.mem (st.om.put _ _) (h2 e), fun e => ?_⟩
    obtain ⟨d, rfl, h4⟩ := so_inv (h3 e)
    exact fun id hid cap hc hl => hK (.ow id 0 _ cap) st.mem (st.om.put id _) (h4 id hid cap hc hl)
theorem lenV_mono {t : TK} {x : V} {K K' : Nat → Prop} (hK : ∀ n, K n → K' n) (h : @lenV t x ⟨K⟩) : @lenV t x ⟨K'⟩ := by
  unfold lenV at h ⊢
  split at h <;> first | exact h.elim | exact ⟨h.1, hK _ h.2⟩
theorem putAt_frame {st st' : St} (hm : st'.mem = st.mem) (hom : st'.om = st.om) {x : V} {es : Nat} {cells : List V} {K K' : St → Prop} (hK : ∀ m om, K ⟨st.env, m, om⟩ → K' ⟨st'.env, m, om⟩) (h : @putAt st x es cells ⟨K⟩) : @putAt st' x es cells ⟨K'⟩ := by
  unfold putAt at h ⊢
  split at h
  · obtain ⟨cs, hcs, h1, h⟩ := so_inv h
    rw [hm, hom]
    exact so_of hcs ⟨h1, hK _ _ h⟩
  · obtain ⟨cs, hcs, h1, h⟩ := so_inv h
    rw [hm, hom]
    exact so_of hcs ⟨h1, hK _ _ h⟩
  · obtain ⟨H, hH, h1, h⟩ := so_inv h
    rw [hm, hom]
    refine so_of hH ⟨h1, ?_⟩
    split at h <;> first | exact h.elim | exact hK _ _ h
  · obtain ⟨H, hH, h1, h⟩ := so_inv h
    rw [hm, hom]
    exact so_of hH ⟨h1, hK _ _ h⟩
  · refine ⟨h.1, ?_⟩
    have := hK st.mem st.om h.2
    rw [← hm, ← hom] at this
    exact this
theorem copyTo_frame {cx : Cx} {st st' : St} (hm : st'.mem = st.mem) (hom : st'.om = st.om) {dst : Option Tmp} {t : TypeId} {x y : V} {K K' : St → Prop} (hK : ∀ v m om, K (out st dst v m om) → K' (out st' dst v m om)) (h : @copyTo cx st dst t x y ⟨K⟩) : @copyTo cx st' dst t x y ⟨K'⟩ := by
  unfold copyTo at h ⊢
  obtain ⟨i, hi, h⟩ := ti_inv h
  refine ti_of hi ?_
  split at h <;> first | exact h.elim | skip
  obtain ⟨ei, hei, h⟩ := ti_inv h
  refine ti_of hei ?_
  rw [hm, hom]
  exact rd_mono (fun ys h => lenV_mono (fun n h => ⟨h.1, putAt_frame hm hom (fun m om h => hK _ m om h) h.2⟩) h) h
theorem clearAll_frame {cx : Cx} {st st' : St} (hm : st'.mem = st.mem) (hom : st'.om = st.om) {dst : Option Tmp} {t : TypeId} {x : V} {K K' : St → Prop} (hK : ∀ v m om, K (out st dst v m om) → K' (out st' dst v m om)) (h : @clearAll cx st dst t x ⟨K⟩) : @clearAll cx st' dst t x ⟨K'⟩ := by
  unfold clearAll at h ⊢
  obtain ⟨i, hi, h⟩ := ti_inv h
  refine ti_of hi ?_
  split at h <;> first | exact h.elim | skip
  obtain ⟨ei, hei, h⟩ := ti_inv h
  refine ti_of hei ?_
  exact lenV_mono (fun n h => putAt_frame hm hom (fun m om h => hK _ m om h) h) h
theorem atKey_mono {k : V} : ∀ {ks vs : List V} {K K' : Option V → Prop}, (∀ r, K r → K' r) → @atKey k ks vs ⟨K⟩ → @atKey k ks vs ⟨K'⟩
  | [], _, _, _, hK, h => hK _ h
  | _ :: _, [], _, _, hK, h => hK _ h
  | c :: ks, v :: vs, _, _, hK, h => ⟨fun e => hK _ (h.1 e), fun e => atKey_mono hK (h.2 e)⟩
theorem setKey_mono {k v : V} : ∀ {ks vs : List V} {K K' : List V → List V → Prop}, (∀ a b, K a b → K' a b) → @setKey k v ks vs ⟨K⟩ → @setKey k v ks vs ⟨K'⟩
  | [], _, _, _, hK, h => hK _ _ h
  | _ :: _, [], _, _, hK, h => hK _ _ h
  | c :: ks, w :: vs, _, _, hK, h => ⟨fun e => hK _ _ (h.1 e), fun e => setKey_mono (fun _ _ h => hK _ _ h) (h.2 e)⟩
theorem mapAt_frame {st st' : St} (hm : st'.mem = st.mem) {x : V} {K K' : Nat → List V × List V → Prop} (hK : ∀ h p, st.mem.get h = some ⟨0, true, [.mc p.1 p.2], true⟩ → K h p → K' h p) (h : @mapAt st x ⟨K⟩) : @mapAt st' x ⟨K'⟩ := by
  obtain ⟨m, ks, vs, rfl, h1, h2⟩ := mapAt_inv h
  unfold mapAt
  rw [hm]
  exact so_of h1 (hK _ _ h1 h2)
theorem mapGet_frame {cx : Cx} {st st' : St} (hm : st'.mem = st.mem) {t : TypeId} {x k : V} {ok : Bool} {K K' : V → Prop} (hK : ∀ v, K v → K' v) (h : @mapGet cx t st x k ok ⟨K⟩) : @mapGet cx t st' x k ok ⟨K'⟩ := by
  unfold mapGet at h ⊢
  obtain ⟨i, hi, h⟩ := ti_inv h
  refine ti_of hi ?_
  split at h <;> first | exact h.elim | skip
  obtain ⟨ki, hki, h⟩ := ti_inv h
  refine ti_of hki ?_
  obtain ⟨ei, hei, h⟩ := ti_inv h
  refine ti_of hei ?_
  refine mapAt_frame hm (fun m p _ h => ⟨h.1, atKey_mono (fun r h => ?_) h.2⟩) h
  cases r <;> cases ok <;> exact hK _ h
theorem memKept_map {m : Mem} {h : Nat} {ks vs : List V} (e : m.get h = some ⟨0, true, [.mc ks vs], true⟩) (ks' vs' : List V) : MemKept m (m.put h ⟨0, true, [.mc ks' vs'], true⟩) := fun g G eg => by
  rw [mem_get_put]
  by_cases e' : g = h
  · subst e'; rw [e] at eg; injection eg with eg; subst eg
    refine ⟨⟨0, true, [.mc ks' vs'], true⟩, by simp, rfl, rfl, rfl, fun h => by simp at h, fun j => ?_⟩
    cases j <;> simp [V.cells]
  · exact ⟨G, by simp [e', eg], .refl _⟩
theorem mapSet_frame {cx : Cx} {st st' : St} (hm : st'.mem = st.mem) (hom : st'.om = st.om) {t : TypeId} {dst : Option Tmp} {x k v : V} {K K' : St → Prop} (hK : ∀ m, MemKept st.mem m → K (out st dst .u m st.om) → K' (out st' dst .u m st.om)) (h : @mapSet cx t st dst x k v ⟨K⟩) : @mapSet cx t st' dst x k v ⟨K'⟩ := by
  unfold mapSet at h ⊢
  obtain ⟨i, hi, h⟩ := ti_inv h
  refine ti_of hi ?_
  split at h <;> first | exact h.elim | skip
  obtain ⟨ki, hki, h⟩ := ti_inv h
  refine ti_of hki ?_
  refine mapAt_frame hm (fun m p hp h => ⟨h.1, setKey_mono (fun a b h => ?_) h.2⟩) h
  rw [hom, hm]
  exact hK _ (memKept_map hp _ _) h
theorem ixKey_mono {k : V} : ∀ {ks vs : List V} {i : Nat} {K K' : Option (Nat × V) → Prop}, (∀ r, K r → K' r) → @ixKey k ks vs i ⟨K⟩ → @ixKey k ks vs i ⟨K'⟩
  | [], _, _, _, _, hK, h => hK _ h
  | _ :: _, [], _, _, _, hK, h => hK _ h
  | c :: ks, v :: vs, _, _, _, hK, h => ⟨fun e => hK _ (h.1 e), fun e => ixKey_mono hK (h.2 e)⟩
theorem mapEnt_frame {cx : Cx} {st st' : St} (hm : st'.mem = st.mem) (hom : st'.om = st.om) {t : TypeId} {dst : Option Tmp} {x k : V} {K K' : St → Prop} (hK : ∀ v m, MemKept st.mem m → K (out st dst v m st.om) → K' (out st' dst v m st.om)) (h : @mapEnt cx t st dst x k ⟨K⟩) : @mapEnt cx t st' dst x k ⟨K'⟩ := by
  unfold mapEnt at h ⊢
  obtain ⟨i, hi, h⟩ := ti_inv h
  refine ti_of hi ?_
  split at h <;> first | exact h.elim | skip
  obtain ⟨ki, hki, h⟩ := ti_inv h
  refine ti_of hki ?_
  obtain ⟨ei, hei, h⟩ := ti_inv h
  refine ti_of hei ?_
  refine mapAt_frame hm (fun m p hp h => ⟨h.1, ixKey_mono (fun r h => ?_) h.2⟩) h
  rw [hom, hm]
  cases r with
  | none => exact hK _ _ (memKept_map hp _ _) h
  | some r => exact hK _ _ (memKept_map hp _ _) h
theorem entStore_frame {st st' : St} (hm : st'.mem = st.mem) (hom : st'.om = st.om) {dst : Option Tmp} {x s v : V} {K K' : St → Prop} (hK : ∀ m, MemKept st.mem m → K (out st dst .u m st.om) → K' (out st' dst .u m st.om)) (h : @entStore st dst x s v ⟨K⟩) : @entStore st' dst x s v ⟨K'⟩ := by
  unfold entStore at h ⊢
  refine mapAt_frame hm (fun m p hp h => ?_) h
  split at h <;> first | exact h.elim | skip
  refine ⟨h.1, ?_⟩
  rw [hom, hm]
  exact hK _ (memKept_map hp _ _) h.2
theorem ex_frame {cx : Cx} (hmono : ∀ f c, lk cx.cs f = some c → Mono c) (hqs : ∀ f c, cx.qs.contains f = true → lk cx.cs f = some c → Quiet c) {fl : Bool} {st st' : St} {dst : Option Tmp} {op : Op} {K K' : St → Prop} (ho : ∀ o ∈ op.operands, st'.opd o = st.opd o) (hm : st'.mem = st.mem) (hom : st'.om = st.om)
    (hK : ∀ v m om, (muts op = false → MemKept st.mem m) → (effs cx op = false → OmKept st.om om) → K (out st dst v m om) → K' (out st' dst v m om)) (h : @exR cx fl st dst op ⟨K⟩) : @exR cx fl st' dst op ⟨K'⟩ := by
  by_cases hP : isP cx op = true
  · obtain ⟨v, h1, h2⟩ := det_ex cx hP (st' := st') ⟨ho, fun _ => by rw [hm]; exact .refl _, fun _ => .inr (by rw [hom]; exact .refl _)⟩ h
    refine h2 _ ?_
    have := hK v st.mem st.om (fun _ => .refl _) (fun _ => .refl _) h1
    unfold out at this
    rw [← hm, ← hom] at this
    exact this
  · have hP' : isP cx op = false := by simpa using hP
    refine ⟨?_, ?_⟩
    · have hs := h.1
      unfold seen at hs ⊢
      split
      · simp only at hs
        rename_i t a
        rw [ho a (by simp [Op.operands])]; exact hs
      · rename_i c
        have e : c.args.toList.map st'.opd = c.args.toList.map st.opd := List.map_congr_left fun x hx => ho x (by simp only [Op.operands, Call.operands]; split <;> simp_all)
        have hs : notOw st c.callee (c.args.toList.map st.opd) := by cases fl <;> exact hs
        rw [e]
        unfold notOw at hs ⊢
        split
        · rename_i f h1
          rw [ho f (by simp [Op.operands, Call.operands, h1])]
          simp only [h1] at hs
          exact hs
        · trivial
      · trivial
    have hseen := h.1
    replace h := h.2
    cases op <;> simp only [isP] at hP' <;> try (exact absurd hP'.symm Bool.false_ne_true)
    case alloc e =>
      simp only [ex, ex1] at h ⊢
      obtain ⟨i, hi, h⟩ := ti_inv h
      refine ti_of hi ?_
      split at h
      · exact thing_frame hm hom (fun v m om hk ho h => hK v m _ (fun _ => hk) (fun _ => ho) h) h
      · exact home_frame hm hom (fun v m hk h => hK v m _ (fun _ => hk) (fun _ => .refl _) h) h
    case box e x =>
      simp only [ex, ex1] at h ⊢
      obtain ⟨i, hi, hf, h⟩ := ti_inv h
      refine ti_of hi ?_
      rw [ho x (by simp [Op.operands])]
      refine ⟨hf, ?_⟩
      split at h
      · exact thing_frame hm hom (fun v m om hk ho h => hK v m _ (fun _ => hk) (fun _ => ho) h) h
      · exact home_frame hm hom (fun v m hk h => hK v m _ (fun _ => hk) (fun _ => .refl _) h) h
    case buildSlice t len ps =>
      have e : ps.toList.map (fun p => st'.opd p.2) = ps.toList.map fun p => st.opd p.2 :=
        List.map_congr_left fun p hp => ho p.2 (by simp only [Op.operands]; exact List.mem_toArray.2 (List.mem_map.2 ⟨p, hp, rfl⟩))
      simp only [ex] at h ⊢
      obtain ⟨i, hi, h⟩ := ti_inv h
      refine ti_of hi ?_
      cases hk : i.k <;> simp only [hk] at h ⊢ <;> first | exact h.elim | skip
      obtain ⟨ei, hei, h⟩ := ti_inv h
      refine ti_of hei ?_
      rw [e]
      exact gives_frame hm hom (fun m ys hk h => ⟨h.1, hK _ m _ (fun _ => hk) (fun _ => .refl _) h.2⟩) h
    case store t a x =>
      have ea := ho a (by simp [Op.operands])
      have ex' := ho x (by simp [Op.operands])
      simp only [ex, ex1, store] at h ⊢
      obtain ⟨i, hi, hf, h⟩ := ti_inv h
      refine ti_of hi ?_
      rw [ea, ex']
      refine ⟨hf, ?_⟩
      cases hv : st.opd a <;> simp only [hv] at h ⊢ <;> first | exact h.elim | skip
      · obtain ⟨H, hH, h1, h⟩ := so_inv h
        rw [hm, hom]
        refine so_of hH ⟨h1, ?_⟩
        exact hK .u _ st.om (fun e => by simp [muts] at e) (fun e => by simp [effs] at e) h
      · obtain ⟨cs, hcs, h1, h⟩ := so_inv h
        rw [hom]
        refine so_of hcs ⟨h1, ?_⟩
        exact give_frame hm hom (fun m y hk h => hK .u m _ (fun _ => hk) (fun e => by simp [effs] at e) h) h
    case binOp op t x y yt =>
      simp only [ex, ex1] at h ⊢
      rw [ho x (by simp [Op.operands]), ho y (by simp [Op.operands])]
      refine binA_mono (fun v h => ?_) h
      have := hK v st.mem st.om (fun _ => .refl _) (fun _ => .refl _) h
      unfold out at this
      rw [← hm, ← hom] at this
      exact this
    case makeSlice t l c =>
      simp only [ex, ex1] at h ⊢
      obtain ⟨i, hi, h⟩ := ti_inv h
      refine ti_of hi ?_
      rw [ho l (by simp [Op.operands]), ho c (by simp [Op.operands])]
      split at h <;> first | exact h.elim | skip
      rename_i e x y hk h1 h2
      obtain ⟨ei, hei, h3, h⟩ := ti_inv h
      refine ti_of hei ?_
      refine ⟨h3, ?_⟩
      split at h
      · obtain ⟨d, rfl, h⟩ := so_inv h
        refine fun id hid => ?_
        rw [hom] at hid ⊢
        rw [hm]
        exact hK _ st.mem _ (fun _ => .refl _) (fun _ => .put hid (.refl _)) (h id hid)
      · exact home_frame hm hom (fun v m hk h => hK v m _ (fun _ => hk) (fun _ => .refl _) h) h
    case makeMap t r =>
      simp only [ex, ex1] at h ⊢
      obtain ⟨i, hi, h⟩ := ti_inv h
      refine ti_of hi ?_
      split at h <;> first | exact h.elim | skip
      exact home_frame hm hom (fun v m hk h => hK v m _ (fun _ => hk) (fun _ => .refl _) h) h
    case lookup t x k ok =>
      simp only [ex, ex1] at h ⊢
      rw [ho x (by simp [Op.operands]), ho k (by simp [Op.operands])]
      refine mapGet_frame hm (fun v h => ?_) h
      have := hK v st.mem st.om (fun _ => .refl _) (fun _ => .refl _) h
      unfold out at this
      rw [← hm, ← hom] at this
      exact this
    case insert t x k v =>
      simp only [ex, ex1] at h ⊢
      rw [ho x (by simp [Op.operands]), ho k (by simp [Op.operands]), ho v (by simp [Op.operands])]
      exact mapSet_frame hm hom (fun m hk h => hK .u m st.om (fun _ => hk) (fun _ => .refl _) h) h
    case mapUpdate t x k v =>
      simp only [ex, ex1] at h ⊢
      rw [ho x (by simp [Op.operands]), ho k (by simp [Op.operands]), ho v (by simp [Op.operands])]
      exact mapSet_frame hm hom (fun m hk h => hK .u m st.om (fun _ => hk) (fun _ => .refl _) h) h
    case mapEntry t x k =>
      simp only [ex, ex1] at h ⊢
      rw [ho x (by simp [Op.operands]), ho k (by simp [Op.operands])]
      exact mapEnt_frame hm hom (fun v m hk h => hK v m st.om (fun _ => hk) (fun _ => .refl _) h) h
    case entryStore t x s v =>
      simp only [ex, ex1] at h ⊢
      rw [ho x (by simp [Op.operands]), ho s (by simp [Op.operands]), ho v (by simp [Op.operands])]
      exact entStore_frame hm hom (fun m hk h => hK .u m st.om (fun _ => hk) (fun _ => .refl _) h) h
    case call c =>
      have e : c.args.toList.map st'.opd = c.args.toList.map st.opd := List.map_congr_left fun x hx => ho x (by simp only [Op.operands, Call.operands]; split <;> simp_all)
      simp only [ex, exCall] at h ⊢
      cases hc : c.callee with
      | value f =>
        simp only [hc, e] at h ⊢
        rw [ho f (by simp [Op.operands, Call.operands, hc])]
        split at h <;> first | exact h.elim | skip
        rotate_left 1
        · rename_i l hf
          simp [seen, hc, notOw, hf] at hseen
        rename_i g as bs hf
        refine call_frame hmono (q := effs cx (.call c) = false) hm hom (fun e c' hc' => ?_) (fun v m om hk hq h => hK v m om (fun _ => hk) hq h) h
        cases f with
        | func f0 =>
          simp only [effs, hc, Bool.not_eq_false'] at e
          simp only [St.opd, V.fn.injEq, Fn.func.injEq] at hf
          rw [hf.1] at e
          exact hqs _ _ e hc'
        | _ => simp [effs, hc] at e
      | invoke r m =>
        simp only [hc] at h ⊢
        rw [ho r (by simp [Op.operands, Call.operands, hc])]
        split at h <;> first | exact h.elim | skip
        obtain ⟨f, hf, h⟩ := so_inv h
        refine so_of hf ?_
        rw [e]
        exact call_frame hmono (q := effs cx (.call c) = false) hm hom (fun e c' hc' => by simp [effs, hc] at e) (fun v m om hk hq h => hK v m om (fun _ => hk) hq h) h
      | builtin b =>
        cases b <;> simp only [hc, e] at h ⊢ hP' <;> first | exact h.elim | (exact absurd hP'.symm Bool.false_ne_true) | skip
        · split at h <;> first | exact h.elim | skip
          rename_i x y t u h1 h2
          obtain ⟨ui, hui, hs, h⟩ := ti_inv h
          refine ti_of hui ?_
          refine ⟨hs, append_frame hm hom (fun v m om h => hK v m om (fun e => by simp [muts, hc] at e) (fun e => by simp [effs, hc] at e) h) h⟩
        · split at h <;> first | exact h.elim | skip
          exact clearAll_frame hm hom (fun v m om h => hK v m om (fun e => by simp [muts, hc] at e) (fun e => by simp [effs, hc] at e) h) h
        · split at h <;> first | exact h.elim | skip
          exact copyTo_frame hm hom (fun v m om h => hK v m om (fun e => by simp [muts, hc] at e) (fun e => by simp [effs, hc] at e) h) h
    all_goals exact h.elim
end Go.Proofs.YteomkgcepiecjaaGreat.I
/- Regions that draw their order: a tree of orders is enough. -/
namespace Go.Proofs.YteomkgcepiecjaaGreat.I
open Go
set_option linter.unusedVariables false
set_option linter.unusedSimpArgs false
section
variable (cx : Cx) (fl : Bool) (ops : List Oper)
def want (o : Oper) (st : St) : Option Bool :=
  match o.guard with
  | none => some true
  | some (j, w) => match (ops.map (·.dst)).getD j none with
    | some d => match st.env.getD d .u with
      | .b x => some (x == w)
      | .tup _ => some false
      | _ => none
    | none => none
theorem set_same {st : St} {d : Nat} {x : Bool} (h : st.env.getD d .u = .b x) : st.set (some d) (.b x) = st := by
  have hlt : d < st.env.length := by
    rcases Nat.lt_or_ge d st.env.length with h' | h'
    · exact h'
    · simp [List.getD, List.getElem?_eq_none h'] at h
  have e : st.env[d] = .b x := by simpa [List.getD, hlt] using h
  cases st with
  | mk env mem om =>
    simp only [St.set]
    congr 1
    simp only at e hlt
    rw [← e]; exact List.set_getElem_self hlt
theorem exG_iff {o : Oper} {st : St} {K : St → Prop} : @exG cx fl ops o st ⟨K⟩ ↔ ∃ b, want ops o st = some b ∧ (b = true → @exR cx fl st o.dst o.op ⟨K⟩) ∧ (b = false → K (st.set o.dst (.tup []))) := by
  unfold exG want
  cases o.guard with
  | none => simp
  | some jw =>
    obtain ⟨j, w⟩ := jw
    simp only
    cases (ops.map (·.dst)).getD j none with
    | none => simp [so]
    | some d =>
      simp only [so, guarded]
      cases hx : st.env.getD d .u <;> try (simp; done)
      · rename_i x
        simp only [Option.some.injEq, exists_eq_left', spl]
        cases w <;> cases x <;> simp [set_same hx]
def looks (o : Oper) : List Tmp :=
  (o.op.operands.toList.filterMap fun | .tmp t => some t | _ => none) ++
  (match o.guard with | some (j, _) => ((ops.map (·.dst)).getD j none).toList | none => [])
def indep (x y : Oper) : Bool :=
  (match x.dst with | some d => !(looks ops y).contains d && y.dst != some d | none => true) &&
  (match y.dst with | some d => !(looks ops x).contains d | none => true) &&
  (!readsM x.op || !muts y.op) && (!readsO x.op || fl || !effs cx y.op)
theorem opd_set {st : St} {dst : Option Tmp} {v : V} {o : Operand} (h : ∀ d, dst = some d → o ≠ .tmp d) : (st.set dst v).opd o = st.opd o := by
  cases dst with
  | none => rfl
  | some d =>
    cases o with
    | tmp t =>
      have : d ≠ t := fun e => h d rfl (by rw [e])
      simp only [St.opd, St.set, List.getD]
      rw [List.getElem?_set_ne this]
    | _ => rfl
theorem looks_op {o : Oper} {d : Tmp} (h : d ∉ looks ops o) : ∀ x ∈ o.op.operands, x ≠ .tmp d := fun x hx e => h (by
  subst e
  exact List.mem_append_left _ (List.mem_filterMap.2 ⟨.tmp d, by simpa using hx, rfl⟩))
theorem want_set {o : Oper} {st : St} {dst : Option Tmp} {v : V} (h : ∀ d, dst = some d → d ∉ looks ops o) : want ops o (st.set dst v) = want ops o st := by
  cases dst with
  | none => rfl
  | some d =>
    unfold want
    cases hg : o.guard with
    | none => rfl
    | some jw =>
      obtain ⟨j, w⟩ := jw
      simp only
      cases ht : (ops.map (·.dst)).getD j none with
      | none => rfl
      | some t =>
        have hne : d ≠ t := fun e => h d rfl (by subst e; exact List.mem_append_right _ (by rw [hg]; simp only; rw [ht]; simp))
        simp only [St.set, List.getD]
        rw [List.getElem?_set_ne hne]
theorem set_comm {st : St} {x y : Option Tmp} {v v' : V} (h : ∀ d, x = some d → y ≠ some d) : (st.set x v).set y v' = (st.set y v').set x v := by
  cases x with
  | none => rfl
  | some d =>
    cases y with
    | none => rfl
    | some e =>
      have hne : d ≠ e := fun he => h d rfl (he ▸ rfl)
      simp only [St.set]
      rw [List.set_comm _ _ hne]
end
section
variable {cx : Cx} {fl : Bool} {ops : List Oper}
structure AlikeG (ops : List Oper) (fl : Bool) (x : Oper) (st s : St) : Prop where
  len : s.env.length = st.env.length
  a : Alike x.op fl st s
  w : want ops x s = want ops x st
theorem detG {x : Oper} {st : St} {K : St → Prop} (hP : isP cx x.op = true) (h : @exG cx fl ops x st ⟨K⟩) :
    ∃ v, K (st.set x.dst v) ∧ ∀ s, AlikeG ops fl x st s → ∀ K' : St → Prop, K' (s.set x.dst v) → @exG cx fl ops x s ⟨K'⟩ := by
  obtain ⟨b, hb, h1, h2⟩ := (exG_iff cx fl ops).1 h
  cases b with
  | false => exact ⟨.tup [], h2 rfl, fun s A K' hK => (exG_iff cx fl ops).2 ⟨false, by rw [A.w]; exact hb, nofun, fun _ => hK⟩⟩
  | true =>
    have hx := h1 rfl
    obtain ⟨v, hv, hv2⟩ := det_ex cx hP (st' := st) ⟨fun _ _ => rfl, fun _ => MemKept.refl _, fun _ => Or.inr (.refl _)⟩ hx
    refine ⟨v, hv, fun s A K' hK => (exG_iff cx fl ops).2 ⟨true, by rw [A.w]; exact hb, fun _ => ?_, nofun⟩⟩
    obtain ⟨v', e, hv'⟩ := det_ex cx hP (st' := s) A.a (hv2 (fun s => s = st.set x.dst v) rfl)
    have e2 : s.set x.dst v' = s.set x.dst v := by
      cases hd : x.dst with
      | none => rfl
      | some d =>
        rw [hd] at e
        simp only [St.set, St.mk.injEq, and_true] at e ⊢
        by_cases hl : d < st.env.length
        · have h1 : (st.env.set d v')[d]? = (st.env.set d v)[d]? := by rw [e]
          simp [hl] at h1
          rw [h1]
        · have hl' := A.len
          have hl2 : s.env.length ≤ d := by rw [hl']; exact Nat.le_of_not_lt hl
          rw [List.set_eq_of_length_le hl2, List.set_eq_of_length_le hl2]
    exact hv' K' (by rw [e2]; exact hK)
theorem swap (hmono : ∀ f c, lk cx.cs f = some c → Mono c) (hqs : ∀ f c, cx.qs.contains f = true → lk cx.cs f = some c → Quiet c) {x y : Oper} {st : St} {K : St → Prop} (hP : isP cx x.op = true) (hi : indep cx fl ops x y = true) (h : @exG cx fl ops x st ⟨fun s => @exG cx fl ops y s ⟨K⟩⟩) :
    @exG cx fl ops y st ⟨fun s => @exG cx fl ops x s ⟨K⟩⟩ := by
  obtain ⟨v, hv, hx⟩ := detG hP h
  simp only [indep, Bool.and_eq_true] at hi
  obtain ⟨⟨⟨i1, i2⟩, i3⟩, i4⟩ := hi
  have d1 : ∀ d, x.dst = some d → d ∉ looks ops y ∧ y.dst ≠ some d := fun d hd => by
    rw [hd] at i1; simpa using i1
  have d2 : ∀ d, y.dst = some d → d ∉ looks ops x := fun d hd => by
    rw [hd] at i2; simpa using i2
  obtain ⟨b, hb, h1, h2⟩ := (exG_iff cx fl ops).1 hv
  rw [want_set ops fun d hd => (d1 d hd).1] at hb
  have al : ∀ y₁ m om, (muts y.op = false → MemKept st.mem m) → (effs cx y.op = false → OmKept st.om om) → AlikeG ops fl x st (out st y.dst y₁ m om) := fun y₁ m om hm ho => by
    refine ⟨by cases hy : y.dst <;> simp [out, St.set], ⟨fun o ho' => ?_, fun hr => ?_, fun hr => ?_⟩, ?_⟩
    · unfold out
      rw [opd_set fun d hd e => looks_op ops (d2 d hd) o ho' e]
      cases o <;> rfl
    · have : muts y.op = false := by simpa [hr] using i3
      have := hm this
      unfold out
      cases y.dst <;> exact this
    · cases fl with
      | true => exact .inl rfl
      | false =>
        have : effs cx y.op = false := by simpa [hr] using i4
        have := ho this
        unfold out
        cases y.dst <;> exact .inr this
    · unfold out
      rw [want_set ops d2]
      rfl
  have comm : ∀ y₁ m om, (out st y.dst y₁ m om).set x.dst v = out (st.set x.dst v) y.dst y₁ m om := fun y₁ m om => by
    unfold out
    rw [set_comm (x := y.dst) (y := x.dst) fun d hd hx => (d1 d hx).2 hd]
    cases x.dst <;> rfl
  refine (exG_iff cx fl ops).2 ⟨b, hb, fun e => ?_, fun e => ?_⟩
  · refine ex_frame hmono hqs (st := st.set x.dst v) (fun o ho' => (opd_set fun d hd e => looks_op ops (d1 d hd).1 o ho' e).symm) (by cases x.dst <;> rfl) (by cases x.dst <;> rfl) (fun y₁ m om hm ho hK => ?_) (h1 e)
    have hm' : muts y.op = false → MemKept st.mem m := fun e => by have := hm e; cases hx' : x.dst <;> simpa [hx', St.set] using this
    have ho' : effs cx y.op = false → OmKept st.om om := fun e => by have := ho e; cases hx' : x.dst <;> simpa [hx', St.set] using this
    refine hx _ (al y₁ m om hm' ho') K ?_
    rw [comm]; exact hK
  · have := h2 e
    have e1 : st.set y.dst (.tup []) = out st y.dst (.tup []) st.mem st.om := by cases hy : y.dst <;> rfl
    rw [e1]
    refine hx _ (al (.tup []) st.mem st.om (fun _ => .refl _) (fun _ => .refl _)) K ?_
    rw [comm]
    have e2 : out (st.set x.dst v) y.dst (.tup []) st.mem st.om = (st.set x.dst v).set y.dst (.tup []) := by
      unfold out
      cases x.dst <;> rfl
    rw [e2]; exact this
theorem exG_mono {x : Oper} {st : St} {K K' : St → Prop} (hP : isP cx x.op = true) (hK : ∀ s, K s → K' s) (h : @exG cx fl ops x st ⟨K⟩) : @exG cx fl ops x st ⟨K'⟩ := by
  obtain ⟨v, hv, h2⟩ := detG hP h
  exact h2 st ⟨rfl, ⟨fun _ _ => rfl, fun _ => MemKept.refl _, fun _ => Or.inr (.refl _)⟩, rfl⟩ K' (hK _ hv)
def Sch.alts : Sch → List Nat
  | .alt i _ r => i :: r.alts
  | _ => []
def canTake (cx : Cx) (fl : Bool) (ops : Array Oper) (x : Nat) (listed : Array Bool) : Bool :=
  match ops[x]? with
  | none => false
  | some ox => isP cx ox.op && (List.range ops.size).all fun i => match ops[i]? with
    | none => true
    | some o => listed.getD i false || i == x || indep cx fl ops.toList ox o || o.after.any fun e => Region.binds .any e && e.on == x
def okT (cx : Cx) (fl : Bool) (ops : Array Oper) : Sch → Bool → Array Bool → Bool
  | .done, true, l => (Region.ready .any ops l).isEmpty
  | .take i n, true, l => (Region.ready .any ops l).contains i && canTake cx fl ops i l && okT cx fl ops n true (l.setIfInBounds i true)
  | .alt i n r, top, l => (Region.ready .any ops l).contains i && okT cx fl ops n true (l.setIfInBounds i true) && okT cx fl ops r false l && (!top || (Region.ready .any ops l).all ((Sch.alt i n r).alts.contains ·))
  | .no, false, _ => true
  | _, _, _ => false
theorem getD_set (l : Array Bool) (x i : Nat) (d : Bool) (h : i ≠ x) : (l.setIfInBounds x true).getD i d = l.getD i d := by
  simp only [Array.getD_eq_getD_getElem?]
  rw [Array.getElem?_setIfInBounds_ne (fun e => h e.symm)]
theorem getD_set_le (l : Array Bool) (x i : Nat) (h : l.getD i false = true) : (l.setIfInBounds x true).getD i false = true := by
  by_cases e : i = x
  · subst e
    simp only [Array.getD_eq_getD_getElem?, Array.getElem?_setIfInBounds_self] at h ⊢
    split
    · simp
    · rename_i hn; simp [Array.getElem?_eq_none (Nat.le_of_not_lt hn)] at h
  · rw [getD_set l x i false e]; exact h
theorem ready_iff {ops : Array Oper} {l : Array Bool} {i : Nat} : i ∈ Region.ready .any ops l ↔ i < ops.size ∧ l.getD i true = false ∧ ∃ o, ops[i]? = some o ∧ ∀ e ∈ o.after, Region.binds .any e = true → l.getD e.on false = true := by
  unfold Region.ready
  simp only [List.mem_filter, List.mem_range, Bool.and_eq_true, Bool.not_eq_true']
  constructor
  · rintro ⟨h1, h2, h3⟩
    refine ⟨h1, h2, ?_⟩
    cases ho : ops[i]? with
    | none => simp [ho] at h3
    | some o =>
      refine ⟨o, rfl, fun e he hb => ?_⟩
      simp only [ho, Option.map_some, Option.getD_some] at h3
      rw [Array.all_eq_true'] at h3
      have := h3 e he
      simpa [hb] using this
  · rintro ⟨h1, h2, o, ho, h3⟩
    refine ⟨h1, h2, ?_⟩
    simp only [ho, Option.map_some, Option.getD_some]
    rw [Array.all_eq_true']
    intro e he
    cases hb : Region.binds .any e with
    | false => simp
    | true => simpa [hb] using h3 e he hb
theorem ready_mono {ops : Array Oper} {l : Array Bool} {i x : Nat} (h : i ∈ Region.ready .any ops l) (hne : i ≠ x) : i ∈ Region.ready .any ops (l.setIfInBounds x true) := by
  obtain ⟨h1, h2, o, ho, h3⟩ := ready_iff.1 h
  exact ready_iff.2 ⟨h1, by rw [getD_set l x i true hne]; exact h2, o, ho, fun e he hb => getD_set_le l x _ (h3 e he hb)⟩
theorem canTake_mono {ops : Array Oper} {l : Array Bool} {x i : Nat} (h : canTake cx fl ops x l = true) : canTake cx fl ops x (l.setIfInBounds i true) = true := by
  unfold canTake at h ⊢
  cases hx : ops[x]? with
  | none => simp [hx] at h
  | some ox =>
    simp only [hx, Bool.and_eq_true, List.all_eq_true] at h ⊢
    refine ⟨h.1, fun j hj => ?_⟩
    have := h.2 j hj
    cases hj' : ops[j]? with
    | none => rfl
    | some o =>
      simp only [hj', Bool.or_eq_true] at this ⊢
      rcases this with ((h1 | h1) | h1) | h1
      · exact .inl (.inl (.inl (getD_set_le l i j h1)))
      · exact .inl (.inl (.inr h1))
      · exact .inl (.inr h1)
      · exact .inr h1
theorem canTake_indep {ops : Array Oper} {l : Array Bool} {x i : Nat} (h : canTake cx fl ops x l = true) (hx : x ∈ Region.ready .any ops l) (hi : i ∈ Region.ready .any ops l) (hne : i ≠ x) :
    ∃ ox oi, ops[x]? = some ox ∧ ops[i]? = some oi ∧ isP cx ox.op = true ∧ indep cx fl ops.toList ox oi = true := by
  obtain ⟨_, hx2, ox, hox, _⟩ := ready_iff.1 hx
  obtain ⟨hi1, hi2, oi, hoi, hi3⟩ := ready_iff.1 hi
  unfold canTake at h
  simp only [hox, Bool.and_eq_true, List.all_eq_true] at h
  refine ⟨ox, oi, hox, hoi, h.1, ?_⟩
  have := h.2 i (List.mem_range.2 hi1)
  simp only [hoi, Bool.or_eq_true] at this
  have f : ∀ j, l.getD j true = false → l.getD j false = false := fun j h => by
    simp only [Array.getD_eq_getD_getElem?] at h ⊢
    cases hj : l[j]? <;> simp_all
  rcases this with ((h1 | h1) | h1) | h1
  · rw [f i hi2] at h1; cases h1
  · exact absurd (by simpa using h1) hne
  · exact h1
  · rw [Array.any_eq_true'] at h1
    obtain ⟨e, he, h1⟩ := h1
    simp only [Bool.and_eq_true, beq_iff_eq] at h1
    have := hi3 e he h1.1
    rw [h1.2, f x hx2] at this; cases this
theorem bring_alt {ops : Array Oper} {l : Array Bool} {i : Nat} : ∀ (t : Sch) (top : Bool), okT cx fl ops t top l = true → i ∈ t.alts →
    ∃ n, okT cx fl ops n true (l.setIfInBounds i true) = true ∧ ∀ st (K : St → Prop), @exT cx fl ops.toList t st ⟨K⟩ → ∃ o, ops[i]? = some o ∧ @exG cx fl ops.toList o st ⟨fun s => @exT cx fl ops.toList n s ⟨K⟩⟩
  | .alt j n r, top, h, hi => by
    simp only [okT, Bool.and_eq_true] at h
    by_cases e : i = j
    · subst e
      refine ⟨n, h.1.1.2, fun st K hT => ?_⟩
      simp only [exT] at hT
      obtain ⟨o, ho, hT⟩ := so_inv hT.1
      exact ⟨o, by simpa using ho, hT⟩
    · obtain ⟨n', h1, h2⟩ := bring_alt r false h.1.2 (by
        rcases List.mem_cons.1 hi with h | h
        · exact absurd h e
        · exact h)
      exact ⟨n', h1, fun st K hT => h2 st K (by simp only [exT] at hT; exact hT.2)⟩
  | .done, _, _, hi => by cases hi
  | .take _ _, _, _, hi => by cases hi
  | .no, _, _, hi => by cases hi
theorem bring (hmono : ∀ f c, lk cx.cs f = some c → Mono c) (hqs : ∀ f c, cx.qs.contains f = true → lk cx.cs f = some c → Quiet c) {ops : Array Oper} : ∀ (t : Sch) (l : Array Bool) (i : Nat), okT cx fl ops t true l = true → i ∈ Region.ready .any ops l →
    ∃ n, okT cx fl ops n true (l.setIfInBounds i true) = true ∧ ∀ st (K : St → Prop), @exT cx fl ops.toList t st ⟨K⟩ → ∃ o, ops[i]? = some o ∧ @exG cx fl ops.toList o st ⟨fun s => @exT cx fl ops.toList n s ⟨K⟩⟩
  | .done, l, i, h, hi => by
    simp only [okT, List.isEmpty_iff] at h
    rw [h] at hi; cases hi
  | .take x n, l, i, h, hi => by
    simp only [okT, Bool.and_eq_true] at h
    obtain ⟨⟨h1, h2⟩, h3⟩ := h
    have hxr : x ∈ Region.ready .any ops l := by simpa using h1
    by_cases e : i = x
    · subst e
      refine ⟨n, h3, fun st K hT => ?_⟩
      simp only [exT] at hT
      obtain ⟨o, ho, hT⟩ := so_inv hT
      exact ⟨o, by simpa using ho, hT⟩
    · obtain ⟨n', k1, k2⟩ := bring hmono hqs n (l.setIfInBounds x true) i h3 (ready_mono hi e)
      obtain ⟨ox, oi, hox, hoi, hP, hind⟩ := canTake_indep h2 hxr hi e
      refine ⟨.take x n', ?_, fun st K hT => ?_⟩
      · simp only [okT, Bool.and_eq_true]
        refine ⟨⟨by simpa using ready_mono hxr (fun e' => e e'.symm), canTake_mono h2⟩, ?_⟩
        rw [Array.setIfInBounds_comm _ _ (fun e' => e e')]
        exact k1
      · simp only [exT] at hT
        obtain ⟨o, ho, hT⟩ := so_inv hT
        have : o = ox := by
          have ho' : ops[x]? = some o := by simpa using ho
          rw [hox] at ho'; exact (Option.some.inj ho').symm
        subst this
        refine ⟨oi, hoi, ?_⟩
        have hT' : @exG cx fl ops.toList o st ⟨fun s => @exG cx fl ops.toList oi s ⟨fun s => @exT cx fl ops.toList n' s ⟨K⟩⟩⟩ := by
          refine exG_mono hP (fun s hs => ?_) hT
          obtain ⟨o', ho', hs⟩ := k2 s K hs
          rw [hoi] at ho'; injection ho' with ho'; subst ho'
          exact hs
        have hs := swap hmono hqs hP hind hT'
        have e2 : (fun s => @exT cx fl ops.toList (.take x n') s ⟨K⟩) = fun s => @exG cx fl ops.toList o s ⟨fun s => @exT cx fl ops.toList n' s ⟨K⟩⟩ := by
          funext s
          have hx' : ops.toList[x]? = some o := by simpa using hox
          simp only [exT, hx', so]
        rw [e2]
        exact hs
  | .alt j n r, l, i, h, hi => by
    refine bring_alt _ true h ?_
    simp only [okT, Bool.and_eq_true] at h
    have := h.2
    simp only [Bool.not_true, Bool.false_or, List.all_eq_true] at this
    simpa using this i hi
  | .no, l, i, h, hi => by simp [okT] at h
end
def setOf (p : Nat → Bool) : Nat → Nat
  | 0 => 0
  | n + 1 => setOf p n ||| (if p n then 1 <<< n else 0)
theorem testBit_one_shl (n i : Nat) : (1 <<< n).testBit i = decide (i = n) := by
  rw [Nat.testBit_shiftLeft]
  by_cases h : i = n
  · subst h; simp
  · have h' : decide (i = n) = false := decide_eq_false h
    rw [h']
    by_cases g : n ≤ i
    · have : i - n ≠ 0 := by omega
      have e : Nat.testBit 1 (i - n) = false := by
        cases hh : Nat.testBit 1 (i - n) with
        | false => rfl
        | true => exact absurd (Nat.testBit_one_eq_true_iff_self_eq_zero.1 hh) this
      simp [e]
    · simp [g]
theorem testBit_setOf (p : Nat → Bool) : ∀ n i, (setOf p n).testBit i = (decide (i < n) && p i)
  | 0, i => by simp [setOf]
  | n + 1, i => by
    rw [setOf, Nat.testBit_or, testBit_setOf p n i]
    by_cases h : i = n
    · subst h
      cases hp : p i <;> simp [hp, testBit_one_shl]
    · have e : (if p n then 1 <<< n else 0).testBit i = false := by
        cases p n
        · simp
        · rw [if_pos rfl, testBit_one_shl]; exact decide_eq_false h
      rw [e, Bool.or_false]
      congr 1
      exact decide_eq_decide.2 ⟨fun g => by omega, fun g => by omega⟩
def waitM (ops : Array Oper) (i : Nat) : Nat := match ops[i]? with
  | none => 0
  | some o => o.after.toList.foldl (fun m e => if Region.binds .any e then m ||| 1 <<< e.on else m) 0
def freeM (cx : Cx) (fl : Bool) (ops : Array Oper) (x : Nat) : Nat := match ops[x]? with
  | none => 0
  | some ox => match isP cx ox.op with
    | false => 0
    | true => setOf (fun i => match ops[i]? with
      | none => true
      | some o => i == x || indep cx fl ops.toList ox o || o.after.any fun e => Region.binds .any e && e.on == x) ops.size
def Sch.altM : Sch → Nat
  | .alt i _ r => (1 <<< i) ||| r.altM
  | _ => 0
def rdyF (D : List Nat) (n i l : Nat) : Bool := decide (i < n) && !l.testBit i && ((D.getD i 0) &&& l == D.getD i 0)
def okF (D M : List Nat) (n full : Nat) : Sch → Bool → Nat → Bool
  | .done, true, l => (List.range n).all fun i => !rdyF D n i l
  | .take i t, true, l => rdyF D n i l && ((M.getD i 0 ||| l) == full) && okF D M n full t true (l ||| 1 <<< i)
  | .alt i t r, top, l => rdyF D n i l && okF D M n full t true (l ||| 1 <<< i) && okF D M n full r false l && (!top || (List.range n).all fun j => !rdyF D n j l || ((1 <<< i) ||| r.altM).testBit j)
  | .no, false, _ => true
  | _, _, _ => false
def okS (cx : Cx) (fl : Bool) (ops : Array Oper) (t : Sch) : Bool :=
  okF ((List.range ops.size).map (waitM ops)) ((List.range ops.size).map (freeM cx fl ops)) ops.size (setOf (fun _ => true) ops.size) t true 0
theorem foldl_wait (es : List Edge) (m : Nat) (i : Nat) : (es.foldl (fun m e => if Region.binds .any e then m ||| 1 <<< e.on else m) m).testBit i = (m.testBit i || es.any fun e => Region.binds .any e && decide (i = e.on)) := by
  induction es generalizing m with
  | nil => simp
  | cons e es ih =>
    rw [List.foldl_cons, ih]
    cases hb : Region.binds .any e
    · simp [hb]
    · simp only [if_true, Nat.testBit_or, testBit_one_shl, List.any_cons, hb, Bool.true_and, Bool.or_assoc]
theorem land_eq_iff (a l : Nat) : (a &&& l == a) = true ↔ ∀ i, a.testBit i = true → l.testBit i = true := by
  rw [beq_iff_eq]
  constructor
  · intro h i hi
    rw [← h, Nat.testBit_and, Bool.and_eq_true] at hi
    exact hi.2
  · intro h
    apply Nat.eq_of_testBit_eq
    intro i
    rw [Nat.testBit_and]
    cases ha : a.testBit i with
    | false => simp
    | true => simp [h i ha]
def Lists (n : Nat) (l : Nat) (L : Array Bool) : Prop := L.size = n ∧ ∀ i, i < n → L[i]? = some (l.testBit i)
theorem Lists.getD {n l : Nat} {L : Array Bool} (h : Lists n l L) {i : Nat} (hi : i < n) (d : Bool) : L.getD i d = l.testBit i := by
  rw [Array.getD_eq_getD_getElem?, h.2 i hi]; rfl
theorem Lists.put {n l : Nat} {L : Array Bool} (h : Lists n l L) (x : Nat) : Lists n (l ||| 1 <<< x) (L.setIfInBounds x true) := by
  refine ⟨by rw [Array.size_setIfInBounds]; exact h.1, fun i hi => ?_⟩
  rw [Nat.testBit_or, testBit_one_shl]
  by_cases e : i = x
  · subst e
    rw [Array.getElem?_setIfInBounds_self]
    have : i < L.size := by rw [h.1]; exact hi
    simp [this]
  · rw [Array.getElem?_setIfInBounds_ne (fun e' => e e'.symm), h.2 i hi]; simp [e]
theorem rdyF_iff {ops : Array Oper} {l : Nat} {L : Array Bool} (h : Lists ops.size l L) (hl : ∀ i, ops.size ≤ i → l.testBit i = false) (i : Nat) : rdyF ((List.range ops.size).map (waitM ops)) ops.size i l = true ↔ i ∈ Region.ready .any ops L := by
  rw [ready_iff]
  unfold rdyF
  by_cases hi : i < ops.size
  · have e1 : ((List.range ops.size).map (waitM ops)).getD i 0 = waitM ops i := by simp [List.getD_eq_getElem?_getD, hi]
    have e2 : ops[i]? = some ops[i] := by simp [hi]
    rw [e1, Bool.and_eq_true, Bool.and_eq_true, land_eq_iff, Bool.not_eq_true', decide_eq_true_eq, h.getD hi]
    unfold waitM
    simp only [e2, hi, true_and, Option.some.injEq, exists_eq_left', foldl_wait, Nat.zero_testBit, Bool.false_or, List.any_eq_true, Bool.and_eq_true, decide_eq_true_eq]
    constructor
    · rintro ⟨h1, h2⟩
      refine ⟨h1, fun e he hb => ?_⟩
      have := h2 e.on ⟨e, by simpa using he, hb, rfl⟩
      by_cases ho : e.on < ops.size
      · rw [h.getD ho]; exact this
      · rw [hl _ (Nat.le_of_not_lt ho)] at this; cases this
    · rintro ⟨h1, h2⟩
      refine ⟨h1, ?_⟩
      rintro j ⟨e, he, hb, rfl⟩
      have := h2 e (by simpa using he) hb
      by_cases ho : e.on < ops.size
      · rw [h.getD ho] at this; exact this
      · rw [Array.getD_eq_getD_getElem?, Array.getElem?_eq_none (by rw [h.1]; exact Nat.le_of_not_lt ho)] at this; cases this
  · constructor
    · intro g; simp [hi] at g
    · rintro ⟨g, -⟩; exact absurd g hi
theorem freeM_can {cx : Cx} {fl : Bool} {ops : Array Oper} {l : Nat} {L : Array Bool} (h : Lists ops.size l L) {i : Nat} (hi : i < ops.size) (hr : l.testBit i = false) (g : (((List.range ops.size).map (freeM cx fl ops)).getD i 0 ||| l == setOf (fun _ => true) ops.size) = true) : canTake cx fl ops i L = true := by
  have e1 : ((List.range ops.size).map (freeM cx fl ops)).getD i 0 = freeM cx fl ops i := by simp [List.getD_eq_getElem?_getD, hi]
  have e2 : ops[i]? = some ops[i] := by simp [hi]
  rw [e1, beq_iff_eq] at g
  have gi : ∀ j, j < ops.size → (freeM cx fl ops i).testBit j = true ∨ l.testBit j = true := fun j hj => by
    have : (freeM cx fl ops i ||| l).testBit j = true := by rw [g, testBit_setOf]; simp [hj]
    rwa [Nat.testBit_or, Bool.or_eq_true] at this
  unfold canTake
  unfold freeM at gi
  simp only [e2] at gi ⊢
  cases hP : isP cx ops[i].op with
  | false =>
    rw [hP] at gi
    rcases gi i hi with g1 | g1
    · simp at g1
    · rw [hr] at g1; cases g1
  | true =>
    rw [hP] at gi
    simp only [Bool.true_and, List.all_eq_true, List.mem_range]
    intro j hj
    have e3 : ops[j]? = some ops[j] := by simp [hj]
    simp only [e3]
    rcases gi j hj with g1 | g1
    · rw [testBit_setOf, Bool.and_eq_true] at g1
      have := g1.2
      simp only [e3] at this
      simp only [Bool.or_assoc] at this ⊢
      rw [this, Bool.or_true]
    · rw [h.getD hj, g1]; simp
theorem altM_iff : ∀ (t : Sch) (j : Nat), t.altM.testBit j = true ↔ j ∈ t.alts
  | .alt i n r, j => by
    rw [Sch.altM, Sch.alts, Nat.testBit_or, testBit_one_shl, Bool.or_eq_true, altM_iff r j, List.mem_cons, decide_eq_true_eq]
  | .done, j => by simp [Sch.altM, Sch.alts]
  | .take _ _, j => by simp [Sch.altM, Sch.alts]
  | .no, j => by simp [Sch.altM, Sch.alts]
theorem okT_of_okF {cx : Cx} {fl : Bool} {ops : Array Oper} : ∀ (t : Sch) (top : Bool) (l : Nat) (L : Array Bool), Lists ops.size l L → (∀ i, ops.size ≤ i → l.testBit i = false) →
    okF ((List.range ops.size).map (waitM ops)) ((List.range ops.size).map (freeM cx fl ops)) ops.size (setOf (fun _ => true) ops.size) t top l = true → okT cx fl ops t top L = true
  | .done, true, l, L, h, hl, g => by
    simp only [okF, List.all_eq_true, List.mem_range, Bool.not_eq_true'] at g
    simp only [okT, List.isEmpty_iff]
    apply List.eq_nil_iff_forall_not_mem.2
    intro i hi
    have h1 := (ready_iff.1 hi).1
    have := (rdyF_iff h hl i).2 hi
    rw [g i h1] at this; cases this
  | .done, false, _, _, _, _, g => by simp [okF] at g
  | .take i n, true, l, L, h, hl, g => by
    simp only [okF, Bool.and_eq_true] at g
    obtain ⟨⟨g1, g2⟩, g3⟩ := g
    have r := (rdyF_iff h hl i).1 g1
    have hi := (ready_iff.1 r).1
    have hb : l.testBit i = false := by
      unfold rdyF at g1
      simp only [Bool.and_eq_true, Bool.not_eq_true'] at g1
      exact g1.1.2
    simp only [okT, Bool.and_eq_true]
    refine ⟨⟨by simpa using r, freeM_can h hi hb g2⟩, okT_of_okF n true _ _ (h.put i) (fun j hj => ?_) g3⟩
    rw [Nat.testBit_or, hl j hj, testBit_one_shl, Bool.false_or, decide_eq_false_iff_not]; omega
  | .take _ _, false, _, _, _, _, g => by simp [okF] at g
  | .alt i n r, top, l, L, h, hl, g => by
    simp only [okF, Bool.and_eq_true] at g
    obtain ⟨⟨⟨g1, g2⟩, g3⟩, g4⟩ := g
    have rr := (rdyF_iff h hl i).1 g1
    have hi := (ready_iff.1 rr).1
    simp only [okT, Bool.and_eq_true]
    refine ⟨⟨⟨by simpa using rr, okT_of_okF n true _ _ (h.put i) (fun j hj => ?_) g2⟩, okT_of_okF r false _ _ h hl g3⟩, ?_⟩
    · rw [Nat.testBit_or, hl j hj, testBit_one_shl, Bool.false_or, decide_eq_false_iff_not]; omega
    · cases top with
      | false => rfl
      | true =>
        simp only [Bool.not_true, Bool.false_or, List.all_eq_true] at g4 ⊢
        intro j hj
        have hj' := (ready_iff.1 hj).1
        have := g4 j (List.mem_range.2 hj')
        rw [(rdyF_iff h hl j).2 hj, Bool.not_true, Bool.false_or] at this
        have := (altM_iff (.alt i n r) j).1 this
        simpa using this
  | .no, false, _, _, _, _, _ => rfl
  | .no, true, _, _, _, _, g => by simp [okF] at g
theorem okT_of_okS {cx : Cx} {fl : Bool} {ops : Array Oper} {t : Sch} (h : okS cx fl ops t = true) : okT cx fl ops t true (Array.replicate ops.size false) = true :=
  okT_of_okF t true 0 _ ⟨by simp, fun i hi => by simp [hi]⟩ (fun i _ => by simp) h
end Go.Proofs.YteomkgcepiecjaaGreat.I
/- Whole bodies. -/
namespace Go.Proofs.YteomkgcepiecjaaGreat.I
open Go
theorem wpIn_loop_ix {F : Fence} {m : Nat} {P : Program} {Q : Exit → Act → World → Prop} {c : Code} {σ : Type} (I : σ → Act → World → Prop) (μ : σ → Nat) {x : σ} {a : Act} {w : World} (h₀ : I x a w)
    (round : ∀ x a w, I x a w → c.wpIn F m P (Exit.then (fun a' w' => ∃ y, I y a' w' ∧ μ y < μ x) Q) a w) : (Code.loop c).wpIn F m P Q a w := by
  intro b k cs hro hb hr
  have key : ∀ n x a w, μ x = n → I x a w → ∃ e a' w', Q e a' w' ∧ ArrivesIn (Machine.fenced P F) P (lone (b.atR a (.code c :: .inLoop c :: k)) cs w) b k cs e a' w' := by
    intro n
    induction n using Nat.strongRecOn with
    | _ n ih =>
      intro x a w hn hI
      obtain ⟨e, a₁, w₁, hq, harr⟩ := round x a w hI b (.inLoop c :: k) cs hro hb hr
      cases e with
      | normal =>
        obtain ⟨y, hI₁, hlt⟩ := hq
        obtain ⟨e₂, a₂, w₂, hq₂, harr₂⟩ := ih (μ y) (hn ▸ hlt) y a₁ w₁ rfl hI₁
        exact ⟨e₂, a₂, w₂, hq₂, .of_steps (StepsIn.trans harr (.one (fenced_calm hb hr rfl) stepR_inLoop)) harr₂⟩
      | exit id => exact ⟨_, a₁, w₁, hq, .pass (x := .inLoop c) rfl (fun _ _ => .inl (by simp)) harr⟩
      | goto l => exact ⟨_, a₁, w₁, hq, .pass (x := .inLoop c) rfl (fun _ _ => .inl (by simp)) harr⟩
      | ret => exact ⟨_, a₁, w₁, hq, .pass (x := .inLoop c) rfl (fun _ _ => .inl (by simp)) harr⟩
      | panic ch => exact ⟨_, a₁, w₁, hq, .pass (x := .inLoop c) rfl (fun _ _ => .inl (by simp)) harr⟩
      | outgrown => exact ⟨_, a₁, w₁, hq, .pass (x := .inLoop c) rfl (fun _ _ => .inl (by simp)) harr⟩
  obtain ⟨e, a', w', hq, harr⟩ := key _ x a w rfl h₀
  exact ⟨e, a', w', hq, .of_steps (.one (fenced_calm hb hr rfl) stepR_loop) harr⟩
section
variable {P : Program} {b : Frame} {a : Act} {k : List Item} {cs : List Frame} {w : World}
theorem stepR_scope' {c : Code} : step P (lone (b.atR a (.code (.scope c) :: k)) cs w) = .next (lone (b.atR a (.code c :: .inScope c :: k)) cs w) :=
  step_lone_go (by simp [stepG, stepG.exec, Frame.atR])
theorem stepR_inScope' {c : Code} : step P (lone (b.atR a (.inScope c :: k)) cs w) = .next (lone (b.atR a k) cs w) :=
  step_lone_go (by simp [stepG, stepG.exec, Frame.atR])
end
theorem wpIn_scope' {F : Fence} {m : Nat} {P : Program} {Q : Exit → Act → World → Prop} {c : Code} {a : Act} {w : World} (h : c.wpIn F m P (Exit.noGoto Q) a w) : (Code.scope c).wpIn F m P Q a w := by
  intro b k cs hro hb hr
  have h0 : (lone (b.atR a (.code (.scope c) :: k)) cs w).fenced P F := fenced_calm hb hr rfl
  obtain ⟨e, a₁, w₁, hq, harr⟩ := h b (.inScope c :: k) cs hro hb hr
  cases e with
  | normal => exact ⟨.normal, a₁, w₁, hq, .head h0 stepR_scope' (StepsIn.trans harr (.one (fenced_calm hb hr rfl) stepR_inScope'))⟩
  | exit id =>
    have hx : exitTo id (.inScope c :: k) = exitTo id k := by simp [exitTo]
    exact ⟨.exit id, a₁, w₁, hq, fun k' hk => .head h0 stepR_scope' (harr.1 k' (by rw [hx]; exact hk)),
      fun hr' hk => let ⟨k₁, h1, h2⟩ := harr.2 hr' (by rw [hx]; exact hk); ⟨k₁, h1, .head h0 stepR_scope' h2⟩⟩
  | goto l => exact hq.elim
  | ret => exact ⟨_, a₁, w₁, hq, .of_steps (.one h0 stepR_scope') harr⟩
  | panic ch => exact ⟨_, a₁, w₁, hq, .of_steps (.one h0 stepR_scope') harr⟩
  | outgrown => exact ⟨_, a₁, w₁, hq, .of_steps (.one h0 stepR_scope') harr⟩
theorem wpIn_scopeG {F : Fence} {m : Nat} {P : Program} {Q : Exit → Act → World → Prop} {c : Code} {a : Act} {w : World}
    (h : c.wpIn F m P (fun e a w => Q e a w ∧ ∀ l, e = .goto l → findLabel c l = none) a w) : (Code.scope c).wpIn F m P Q a w := by
  intro b k cs hro hb hr
  have h0 : (lone (b.atR a (.code (.scope c) :: k)) cs w).fenced P F := fenced_calm hb hr rfl
  obtain ⟨e, a₁, w₁, ⟨hq, hg⟩, harr⟩ := h b (.inScope c :: k) cs hro hb hr
  cases e with
  | normal => exact ⟨.normal, a₁, w₁, hq, .head h0 stepR_scope' (StepsIn.trans harr (.one (fenced_calm hb hr rfl) stepR_inScope'))⟩
  | exit id =>
    have hx : exitTo id (.inScope c :: k) = exitTo id k := by simp [exitTo]
    exact ⟨.exit id, a₁, w₁, hq, fun k' hk => .head h0 stepR_scope' (harr.1 k' (by rw [hx]; exact hk)),
      fun hr' hk => let ⟨k₁, h1, h2⟩ := harr.2 hr' (by rw [hx]; exact hk); ⟨k₁, h1, .head h0 stepR_scope' h2⟩⟩
  | goto l =>
    have hx : gotoIn l (.inScope c :: k) = gotoIn l k := by simp [gotoIn, hg l rfl]
    exact ⟨.goto l, a₁, w₁, hq, fun k' hk => .head h0 stepR_scope' (harr.1 k' (by rw [hx]; exact hk)),
      fun hr' hk => let ⟨k₁, h1, h2⟩ := harr.2 hr' (by rw [hx]; exact hk); ⟨k₁, h1, .head h0 stepR_scope' h2⟩⟩
  | ret => exact ⟨_, a₁, w₁, hq, .of_steps (.one h0 stepR_scope') harr⟩
  | panic ch => exact ⟨_, a₁, w₁, hq, .of_steps (.one h0 stepR_scope') harr⟩
  | outgrown => exact ⟨_, a₁, w₁, hq, .of_steps (.one h0 stepR_scope') harr⟩
theorem wpIn_scope_goto {F : Fence} {m : Nat} {P : Program} {Q : Exit → Act → World → Prop} {c rest : Code} {l : Nat} (hl : findLabel c l = some rest) {σ : Type} (I : σ → Act → World → Prop) (μ : σ → Nat) {a : Act} {w : World}
    (h : c.wpIn F m P (fun e a w => match e with | .goto j => j = l ∧ ∃ x, I x a w | e => Q e a w) a w)
    (hs : ∀ x a w, I x a w → rest.wpIn F m P (fun e a w => match e with | .goto j => j = l ∧ ∃ y, μ y < μ x ∧ I y a w | e => Q e a w) a w) : (Code.scope c).wpIn F m P Q a w := by
  intro b k cs hro hb hr
  have h0 : (lone (b.atR a (.code (.scope c) :: k)) cs w).fenced P F := fenced_calm hb hr rfl
  have hx : gotoIn l (.inScope c :: k) = some (.code rest :: .inScope c :: k) := by simp [gotoIn, hl]
  have fin : ∀ (e : Exit) (a₁ : Act) (w₁ : World) (M : Machine), (∀ j, e ≠ .goto j) → Q e a₁ w₁ → ArrivesIn (Machine.fenced P F) P M b (.inScope c :: k) cs e a₁ w₁ → ArrivesIn (Machine.fenced P F) P M b k cs e a₁ w₁ := by
    intro e a₁ w₁ M hne hq harr
    cases e with
    | normal => exact StepsIn.trans harr (.one (fenced_calm hb hr rfl) stepR_inScope')
    | exit id =>
      have hy : exitTo id (.inScope c :: k) = exitTo id k := by simp [exitTo]
      exact ⟨fun k' hk => harr.1 k' (by rw [hy]; exact hk), fun hr' hk => harr.2 hr' (by rw [hy]; exact hk)⟩
    | goto j => exact absurd rfl (hne j)
    | ret => exact harr
    | panic ch => exact harr
    | outgrown => exact harr
  have key : ∀ n x a w, μ x = n → I x a w → ∃ e a' w', Q e a' w' ∧ ArrivesIn (Machine.fenced P F) P (lone (b.atR a (.code rest :: .inScope c :: k)) cs w) b k cs e a' w' := by
    intro n
    induction n using Nat.strongRecOn with
    | _ n ih =>
      intro x a w hn hI
      obtain ⟨e, a₁, w₁, hq, harr⟩ := hs x a w hI b (.inScope c :: k) cs hro hb hr
      cases e with
      | goto j =>
        obtain ⟨rfl, y, hlt, hI₁⟩ := hq
        obtain ⟨e₂, a₂, w₂, hq₂, harr₂⟩ := ih (μ y) (hn ▸ hlt) y a₁ w₁ rfl hI₁
        exact ⟨e₂, a₂, w₂, hq₂, .of_steps (harr.1 _ hx) harr₂⟩
      | normal => exact ⟨_, a₁, w₁, hq, fin _ _ _ _ (fun _ => by simp) hq harr⟩
      | exit id => exact ⟨_, a₁, w₁, hq, fin _ _ _ _ (fun _ => by simp) hq harr⟩
      | ret => exact ⟨_, a₁, w₁, hq, fin _ _ _ _ (fun _ => by simp) hq harr⟩
      | panic ch => exact ⟨_, a₁, w₁, hq, fin _ _ _ _ (fun _ => by simp) hq harr⟩
      | outgrown => exact ⟨_, a₁, w₁, hq, fin _ _ _ _ (fun _ => by simp) hq harr⟩
  obtain ⟨e, a₁, w₁, hq, harr⟩ := h b (.inScope c :: k) cs hro hb hr
  cases e with
  | goto j =>
    obtain ⟨rfl, x, hI⟩ := hq
    obtain ⟨e₂, a₂, w₂, hq₂, harr₂⟩ := key _ x a₁ w₁ rfl hI
    exact ⟨e₂, a₂, w₂, hq₂, .of_steps (.head h0 stepR_scope' (harr.1 _ hx)) harr₂⟩
  | normal => exact ⟨_, a₁, w₁, hq, .of_steps (.one h0 stepR_scope') (fin _ _ _ _ (fun _ => by simp) hq harr)⟩
  | exit id => exact ⟨_, a₁, w₁, hq, .of_steps (.one h0 stepR_scope') (fin _ _ _ _ (fun _ => by simp) hq harr)⟩
  | ret => exact ⟨_, a₁, w₁, hq, .of_steps (.one h0 stepR_scope') (fin _ _ _ _ (fun _ => by simp) hq harr)⟩
  | panic ch => exact ⟨_, a₁, w₁, hq, .of_steps (.one h0 stepR_scope') (fin _ _ _ _ (fun _ => by simp) hq harr)⟩
  | outgrown => exact ⟨_, a₁, w₁, hq, .of_steps (.one h0 stepR_scope') (fin _ _ _ _ (fun _ => by simp) hq harr)⟩
theorem findLabel_none : ∀ {c : Code} {l : Nat}, hasL l c = false → findLabel c l = none
  | .seq a b, l, h => by
    simp only [hasL, Bool.or_eq_false_iff] at h
    simp [findLabel, findLabel_none h.1, findLabel_none h.2]
  | .label j, l, h => by
    simp only [hasL] at h
    simp [findLabel, h]
  | .skip, _, _ => rfl
  | .region .., _, _ => rfl
  | .cond .., _, _ => rfl
  | .block .., _, _ => rfl
  | .loop _, _, _ => rfl
  | .rangeFunc .., _, _ => rfl
  | .exit _, _, _ => rfl
  | .scope _, _, _ => rfl
  | .goto _, _, _ => rfl
  | .ret, _, _ => rfl
  | .refuse _, _, _ => rfl
section
variable {P : Program}
theorem put_self {a : Act} {d : Tmp} (h : d < a.tmps.size) : a.put (some d) (a.tmps.getD d undef) = a := by
  cases a with
  | mk tmps defers =>
    simp only at h
    simp only [Act.put]
    congr 1
    apply Array.ext
    · simp
    · intro i h1 h2
      by_cases e : d = i
      · subst e; simp [Array.getD, h]
      · simp [Array.getElem_setIfInBounds_ne h2 e]
theorem Rel.know {B : Base} {X : Lay} {own : Nat → Prop} {st : St} {a : Act} (R : Rel B X own st a) {d : Tmp} (h : d < a.tmps.size) {y : V} (hy : Rep X (a.tmps.getD d undef) y) : Rel B X own (st.set (some d) y) a := by
  have := R.set (some d) hy
  rwa [put_self h] at this
theorem exs_sound {cx : Cx} (C : COk P cx) {B : Base} (Y : ∀ l c, cx.y = some (l, c) → YOk P B l c) {F : Fence} {m : Nat} (hF : FW F) {ops : Array Oper} (hg : ∀ o ∈ ops.toList, goodOp o.op = true) {K : St → Prop} {Q : Exit → Act → World → Prop} (hQ : ∀ a w, After B K a w → Q .normal a w) :
    ∀ (l : List Oper) (k : Nat), ops.toList.drop k = l → ∀ (st : St) (X : Lay) (own : Nat → Prop) (a : Act), @exs cx (ops.toList.map (·.dst)) l st ⟨K⟩ → Rel B X own st a → wpOpsIn F m P ops Q (List.range' k l.length) a X.w
  | [], k, hl, st, X, own, a, h, R => hQ _ _ ⟨st, X, own, h, rfl, R⟩
  | o :: l, k, hl, st, X, own, a, h, R => by
    have hk : k < ops.toList.length := by
      rcases Nat.lt_or_ge k ops.toList.length with h | h
      · exact h
      · rw [List.drop_eq_nil_of_le h] at hl; cases hl
    rw [List.drop_eq_getElem_cons hk] at hl
    injection hl with ho hl
    have hok : ops[k]? = some o := by
      rw [← ho]; simp at hk; simp [hk]
    have hgo := hg o (by rw [← ho]; exact List.getElem_mem hk)
    have ih := exs_sound C Y (m := m) hF hg hQ l (k + 1) hl
    simp only [List.length_cons, List.range'_succ, wpOpsIn, hok]
    have run : ∀ (st : St) (X : Lay) (own : Nat → Prop) (a : Act), @ex cx st o.dst o.op ⟨fun st => @exs cx (ops.toList.map (·.dst)) l st ⟨K⟩⟩ → Rel B X own st a → o.wpIn F m P a X.w (wpOpsIn F m P ops Q (List.range' (k + 1) l.length)) Q := by
      intro st X own a h R
      refine Oper.wpIn_mono ?_ (ex_sound C Y h hgo X own a R F m Q hF)
      rintro a w ⟨st', X', own', hK, rfl, R'⟩
      exact ih st' X' own' a hK R'
    simp only [exs] at h
    cases hgd : o.guard with
    | none =>
      simp only [hgd] at h
      rw [if_pos (by simp [Region.wanted, hgd])]
      exact (run st X own a h R)
    | some jw =>
      obtain ⟨j, w⟩ := jw
      simp only [hgd] at h
      obtain ⟨d, hd, h⟩ := so_inv h
      unfold guarded at h
      have hR := R.get d
      split at h <;> first | exact h.elim | skip
      rotate_left 1
      · rename_i ys hx
        rw [hx] at hR
        have hlt : d < st.env.length := by
          rcases Nat.lt_or_ge d st.env.length with h | h
          · exact h
          · simp [List.getD, List.getElem?_eq_none h] at hx
        have hlt' : d < a.tmps.size := by rw [R.tm]; exact hlt
        obtain ⟨vs, hv⟩ : ∃ vs, a.tmps.getD d undef = .tuple vs := by generalize a.tmps.getD d undef = v at hR; cases hR; exact ⟨_, rfl⟩
        have hyd : yielded ops a.tmps j = none := by
          have e1 : (ops[j]?).bind (·.dst) = some d := by
            simp only [List.getD, List.getElem?_map, Array.getElem?_toList] at hd
            cases he : ops[j]? with
            | none => simp [he] at hd
            | some o' => simpa [he] using hd
          have e2 : a.tmps[d]? = some (.tuple vs) := by
            rw [Array.getElem?_eq_getElem hlt', ← hv]; simp [Array.getD, hlt']
          simp [yielded, e1, e2]
        have hwant : Region.wanted o (yielded ops a.tmps) = false := by
          simp [Region.wanted, hgd, hyd]
        rw [hwant, if_neg (by simp)]
        exact ⟨fun f _ => hF.fn f, ih _ X own _ h (R.set o.dst (.tup #[] [] rfl fun k h1 h2 => by simp at h1))⟩
      rename_i x hx
      rw [hx] at hR
      have hlt : d < st.env.length := by
        rcases Nat.lt_or_ge d st.env.length with h | h
        · exact h
        · simp [List.getD, List.getElem?_eq_none h] at hx
      have hlt' : d < a.tmps.size := by rw [R.tm]; exact hlt
      have hv : a.tmps.getD d undef = .bool x := by generalize a.tmps.getD d undef = v at hR; cases hR; rfl
      have hyd : yielded ops a.tmps j = some x := by
        have e1 : (ops[j]?).bind (·.dst) = some d := by
          simp only [List.getD, List.getElem?_map, Array.getElem?_toList] at hd
          cases he : ops[j]? with
          | none => simp [he] at hd
          | some o' => simpa [he] using hd
        have e2 : a.tmps[d]? = some (.bool x) := by
          rw [Array.getElem?_eq_getElem hlt', ← hv]; simp [Array.getD, hlt']
        simp [yielded, e1, e2]
      have know : ∀ b, x = b → Rel B X own (st.set (some d) (.b b)) a := fun b hb => R.know hlt' (by rw [hv, hb]; exact .b b)
      have hwant : Region.wanted o (yielded ops a.tmps) = (x == w) := by
        simp [Region.wanted, hgd, hyd]
      rw [hwant]
      cases w <;> cases x
      · rw [if_pos (by simp)]; exact (run _ X own a (h.2 rfl) (know _ rfl))
      · rw [if_neg (by simp)]; exact ⟨fun f _ => hF.fn f, ih _ X own _ (h.1 rfl) ((know _ rfl).set o.dst (.tup #[] [] rfl fun k h1 h2 => by simp at h1))⟩
      · rw [if_neg (by simp)]; exact ⟨fun f _ => hF.fn f, ih _ X own _ (h.2 rfl) ((know _ rfl).set o.dst (.tup #[] [] rfl fun k h1 h2 => by simp at h1))⟩
      · rw [if_pos (by simp)]; exact (run _ X own a (h.1 rfl) (know _ rfl))
theorem wanted_of {B : Base} {X : Lay} {own : Nat → Prop} {st : St} {a : Act} (R : Rel B X own st a) {ops : Array Oper} {o : Oper} {b : Bool} (h : want ops.toList o st = some b) : Region.wanted o (yielded ops a.tmps) = b := by
  unfold want at h
  cases hg : o.guard with
  | none => simp [hg] at h; simp [Region.wanted, hg, ← h]
  | some jw =>
    obtain ⟨j, w⟩ := jw
    simp only [hg] at h
    cases hd : (ops.toList.map (·.dst)).getD j none with
    | none => rw [hd] at h; cases h
    | some d =>
    rw [hd] at h
    simp only at h
    have hR := R.get d
    cases hx : st.env.getD d .u <;> rw [hx] at h hR <;> try (cases h; done)
    rotate_left 1
    · injection h with h
      subst h
      have hv : ∀ x, a.tmps[d]? ≠ some (.bool x) := fun x e => by
        have e2 : a.tmps.getD d undef = .bool x := by simp [Array.getD_eq_getD_getElem?, e]
        rw [e2] at hR
        cases hR
      have e1 : (ops[j]?).bind (·.dst) = some d := by
        simp only [List.getD, List.getElem?_map, Array.getElem?_toList] at hd
        cases he : ops[j]? with
        | none => simp [he] at hd
        | some o' => simpa [he] using hd
      have hy : yielded ops a.tmps j = none := by
        unfold yielded
        rw [e1]
        split
        · rename_i b hb; exact absurd hb (hv b)
        · rfl
      simp [Region.wanted, hg, hy]
    rename_i x
    injection h with h
    have hlt : d < st.env.length := by
      rcases Nat.lt_or_ge d st.env.length with h | h
      · exact h
      · simp [List.getD, List.getElem?_eq_none h] at hx
    have hlt' : d < a.tmps.size := by rw [R.tm]; exact hlt
    have hv : a.tmps.getD d undef = .bool x := by generalize a.tmps.getD d undef = v at hR; cases hR; rfl
    have e1 : (ops[j]?).bind (·.dst) = some d := by
      simp only [List.getD, List.getElem?_map, Array.getElem?_toList] at hd
      cases he : ops[j]? with
      | none => simp [he] at hd
      | some o' => simpa [he] using hd
    have e2 : a.tmps[d]? = some (.bool x) := by
      rw [Array.getElem?_eq_getElem hlt', ← hv]; simp [Array.getD, hlt']
    simp [Region.wanted, hg, yielded, e1, e2, h]
def leftN (l : Array Bool) : Nat → Nat
  | 0 => 0
  | n + 1 => leftN l n + if l.getD n true = true then 0 else 1
theorem leftN_le (l : Array Bool) : ∀ n, leftN l n ≤ n
  | 0 => Nat.le_refl _
  | n + 1 => by simp only [leftN]; have := leftN_le l n; split <;> omega
theorem getD_set_true (l : Array Bool) (i : Nat) : (l.setIfInBounds i true).getD i true = true := by
  simp only [Array.getD_eq_getD_getElem?, Array.getElem?_setIfInBounds_self]
  split <;> simp
theorem leftN_set (l : Array Bool) (i : Nat) (h : l.getD i true = false) : ∀ n, leftN (l.setIfInBounds i true) n + (if i < n then 1 else 0) = leftN l n
  | 0 => rfl
  | n + 1 => by
    simp only [leftN]
    have := leftN_set l i h n
    by_cases e : n = i
    · subst e
      rw [getD_set_true, h]
      simp only [if_true, Nat.lt_irrefl, if_false] at this ⊢
      simp; omega
    · rw [getD_set l i n true e]
      split at this <;> split <;> split <;> omega
def left (ops : Array Oper) (l : Array Bool) : Nat := leftN l ops.size
theorem left_set {ops : Array Oper} {l : Array Bool} {i : Nat} (h : i ∈ Region.ready .any ops l) : left ops (l.setIfInBounds i true) < left ops l := by
  obtain ⟨h1, h2, _⟩ := ready_iff.1 h
  have := leftN_set l i h2 ops.size
  rw [if_pos h1] at this
  unfold left; omega
theorem any_sound {cx : Cx} (C : COk P cx) {B : Base} (Y : ∀ l c, cx.y = some (l, c) → YOk P B l c) {F : Fence} {m : Nat} (hF : FW F) {fl : Bool} {ops : Array Oper} (hg : ∀ o ∈ ops.toList, goodOp o.op = true) {K : St → Prop} {Q : Exit → Act → World → Prop} (hQ : ∀ a w, After B K a w → Q .normal a w) :
    ∀ (fuel : Nat) (l : Array Bool) (t : Sch) (st : St) (X : Lay) (own : Nat → Prop) (a : Act), left ops l ≤ fuel → okT cx fl ops t true l = true → @exT cx fl ops.toList t st ⟨K⟩ → Rel B X own st a → wpAnyIn F m P .any ops Q fuel l a X.w := by
  have nil : ∀ (l : Array Bool) (t : Sch) (st : St) (X : Lay) (own : Nat → Prop) (a : Act), okT cx fl ops t true l = true → @exT cx fl ops.toList t st ⟨K⟩ → Rel B X own st a → Region.ready .any ops l = [] → Q .normal a X.w := by
    intro l t st X own a hk hT R hr
    cases t with
    | done => exact hQ _ _ ⟨st, X, own, hT, rfl, R⟩
    | take i n => simp [okT, hr] at hk
    | alt i n r => simp [okT, hr] at hk
    | no => simp [okT] at hk
  intro fuel
  induction fuel with
  | zero =>
    intro l t st X own a hf hk hT R
    have hr : Region.ready .any ops l = [] := by
      refine List.eq_nil_iff_forall_not_mem.2 fun i hi => ?_
      have := left_set hi
      omega
    exact ⟨hr, nil l t st X own a hk hT R hr⟩
  | succ fuel ih =>
    intro l t st X own a hf hk hT R
    refine ⟨nil l t st X own a hk hT R, fun i hi => ?_⟩
    obtain ⟨n, hn, hstep⟩ := bring (fun f c h => (C.cs f c h).mono) C.qs t l i hk hi
    obtain ⟨o, ho, hG⟩ := hstep st K hT
    obtain ⟨b, hb, h1, h2⟩ := (exG_iff cx fl ops.toList).1 hG
    have hleft := left_set hi
    have hw := wanted_of R hb
    unfold wpOpIn
    simp only [ho, hw]
    cases b with
    | false =>
      rw [if_neg (by simp)]
      refine ⟨fun f _ => hF.fn f, ?_⟩
      exact ih _ n _ X own _ (by omega) hn (h2 rfl) (R.set o.dst (.tup #[] [] rfl fun k h1 h2 => by simp at h1))
    | true =>
      rw [if_pos rfl]
      refine Oper.wpIn_mono ?_ (ex_sound C Y (h1 rfl).2 (hg o (by
        have := Array.mem_of_getElem? ho; exact Array.mem_toList_iff.2 this)) X own a R F m Q hF)
      rintro a w ⟨st', X', own', hK, rfl, R'⟩
      exact ih _ n st' X' own' a (by omega) hn hK R'
theorem leE_get {m : Mem} : ∀ {s t : List V}, leE m s t → s.length = t.length ∧ ∀ k (h : k < s.length) (h' : k < t.length), leV m s[k] t[k]
  | [], [], _ => ⟨rfl, fun k h => by simp at h⟩
  | [], _ :: _, h => h.elim
  | _ :: _, [], h => h.elim
  | a :: s, c :: t, h => by
    obtain ⟨h1, h2⟩ := leE_get h.2
    refine ⟨by simp [h1], fun k hk hk' => ?_⟩
    cases k with
    | zero => exact h.1
    | succ k => exact h2 k (by simpa using hk) (by simpa using hk')
theorem leM_get {m : Mem} : ∀ {l : Mem}, leM m l → ∀ h H, l.get h = some H → m.get h = some H ∨ (m.get h = none ∧ H.els = [])
  | [], _, h, H, e => by simp [Mem.get] at e
  | (g, G) :: l, hl, h, H, e => by
    simp only [Mem.get] at e
    split at e
    · rename_i hh; subst hh; injection e with e; subst e; exact hl.1
    · exact leM_get hl.2 h H e
theorem mem_keys : ∀ (l : Mem) (h : Nat), h ∈ l.map (·.1) ↔ (l.get h).isSome
  | [], h => by simp [Mem.get]
  | (g, G) :: l, h => by
    simp only [List.map_cons, List.mem_cons, Mem.get, mem_keys l h]
    by_cases e : h = g <;> simp [e]
theorem withinM_get {hs : List Nat} : ∀ {l : Mem}, withinM hs l = true → ∀ h H, l.get h = some H → withins hs H.els = true
  | [], _, h, H, e => by simp [Mem.get] at e
  | (g, G) :: l, hl, h, H, e => by
    simp only [withinM, Bool.and_eq_true] at hl
    simp only [Mem.get] at e
    split at e
    · injection e with e; subst e; exact hl.1
    · exact withinM_get hl.2 h H e
theorem within_cells {hs : List Nat} {x : V} (h : x.within hs = true) : withins hs x.cells = true := by
  cases x <;> simp_all [V.cells, V.within, withins]
theorem within_flat {hs : List Nat} {xs : List V} (h : withins hs xs = true) : withins hs (flat xs) = true := by
  rw [withins_iff] at *
  intro y hy
  obtain ⟨x, hx, hy⟩ := List.mem_flatMap.1 hy
  exact (withins_iff _ _).1 (within_cells (h x hx)) y hy
def Lay.keep (X : Lay) (m : Mem) (hs : List Nat) : Lay := { X with live := (· ∈ hs), L := fun h => if m.get h = none then 0 else X.L h, cap := fun h => if m.get h = none then 0 else X.cap h }
theorem Rel.weaken {B : Base} {X : Lay} {own : Nat → Prop} {s t : St} {a : Act} (R : Rel B X own s a) (h : s.le t) : Rel B (X.keep s.mem (t.mem.map (·.1))) (fun h => own h ∧ s.mem.get h ≠ none) t a := by
  obtain ⟨h1, h2, h3, h4, h5⟩ := h
  obtain ⟨e1, e2⟩ := leE_get h1
  have lv : ∀ g, s.mem.get g ≠ none → X.live g := fun g hg => (R.lv g).2 (by cases e : s.mem.get g with
    | none => exact absurd e hg
    | some H => rfl)
  have nl : ∀ g, X.live g → s.mem.get g ≠ none := fun g hg e => by have := (R.lv g).1 hg; rw [e] at this; cases this
  have dr : ∀ {v x}, Rep X v x → x.within (t.mem.map (·.1)) = true → Rep (X.keep s.mem (t.mem.map (·.1))) v x := fun hr hw =>
    Rep.drop' (fun g hg => ⟨if_neg (nl g hg), if_neg (nl g hg)⟩) hr hw
  refine ⟨by rw [R.tm, e1], ?_, R.df, fun g => mem_keys _ _, ?_, fun g g' _ _ o o' e => R.ij g g' (lv g o.2) (lv g' o'.2) o.1 o'.1 e, fun g _ ho => (by
    cases e : t.om (X.j g).1 with
    | none => exact e
    | some cs => have := h3 _ _ e; rw [R.dj g (lv g ho.2) ho.1] at this; cases this), ?_, R.sb, R.fn, R.fb, R.fS, R.fS', fun id hid hlt => (by
    cases e : t.om id with
    | none => exact absurd e hid
    | some cs => exact R.fo id (by rw [h3 _ _ e]; simp) hlt)⟩
  · intro k hk hk'
    have hw := (withins_iff _ _).1 h4 _ (List.getElem_mem hk)
    have hr := R.rp k (by rw [e1]; exact hk) hk'
    have hl := e2 k (by rw [e1]; exact hk) hk
    unfold leV at hl
    split at hl
    · rename_i hu; rw [hu]; exact .u _
    · rename_i g n len hu
      rw [hu] at hw ⊢
      rcases hl with hl | ⟨⟨rfl, rfl⟩, hn, hl⟩
      · rw [hl] at hr; exact dr hr hw
      · have hg : g ∈ t.mem.map (·.1) := by simpa [V.within] using hw
        rcases hl with hl | hl
        · rw [hl] at hr
          generalize a.tmps[k] = v at hr
          cases hr
          exact .row g 0 0 none 0 hg (Nat.zero_le _) (Nat.le_refl _) (Nat.le_refl _) (Nat.zero_le _) (fun _ => rfl) fun _ => ⟨by simp [Lay.keep, hn], fun h => by simp [Lay.keep, hn] at h⟩
        · rw [hl] at hr
          generalize a.tmps[k] = v at hr
          cases hr
          exact .row g 0 0 _ 0 hg (Nat.zero_le _) (Nat.le_refl _) (Nat.le_refl _) (Nat.zero_le _) (fun _ => rfl) fun _ => ⟨by simp [Lay.keep, hn], fun h => by simp [Lay.keep, hn] at h⟩
    · rename_i xs hu
      rw [hu] at hw ⊢
      rcases hl with hl | hl | ⟨rfl, hl⟩
      · rw [hl] at hr; exact dr hr hw
      · rw [hl] at hr
        have hr' := dr hr (by simp only [V.within] at hw ⊢)
        generalize a.tmps[k] = v at hr'
        cases hr' with
        | lit b o es _ vals hcm hcl hu h1 h2 => exact .sl b o _ es _ vals (Nat.le_refl _) hcm hcl hu h1 h2
      · rw [hl] at hr
        generalize a.tmps[k] = v at hr
        cases hr
        exact .sl0 _ _
    · rw [hl] at hr
      exact dr hr hw
  · intro g H hH
    rcases leM_get h2 g H hH with hg | ⟨hg, he⟩
    · have hm := R.hm g H hg
      have hne : s.mem.get g ≠ none := by rw [hg]; simp
      have hw := (withins_iff _ _).1 (within_flat (withinM_get h5 g H hH))
      refine ⟨by simp only [Lay.keep, if_neg hne]; exact hm.L, hm.uni, ?_⟩
      rcases hm.lay with ⟨q0, q00, q1, q2, ⟨cur, ty, c1, c2, c3, c4⟩, q5, q6⟩ | ⟨q0, q1, q2, ⟨vals, c1, c2⟩⟩ | ⟨q0, q1, ks, vs, es, ck, rfl, c1, c2, c3, c4, c5⟩
      · refine .inl ⟨⟨q0, hne⟩, q00, ?_, ?_, ⟨cur, ty, c1, ?_, ?_, fun k hk hk' => ⟨dr (c4 k hk hk').1 (hw _ (List.getElem_mem hk)), (c4 k hk hk').2⟩⟩, q5, q6⟩
        · simp only [Lay.keep, if_neg hne]; exact q1
        · simp only [Lay.keep, if_neg hne]; exact q2
        · simp only [Lay.keep, if_neg hne]; exact c2
        · simp only [Lay.keep, if_neg hne]; exact c3
      · refine .inr (.inl ⟨fun ho => q0 ho.1, ?_, q2, vals, c1, fun k hk => dr (c2 k hk) (hw _ (List.getElem_mem hk))⟩)
        simp only [Lay.keep, if_neg hne]; exact q1
      · have hw' := withinM_get h5 g _ hH
        simp only [withins, V.within, Bool.and_true, Bool.and_eq_true] at hw'
        have drL : ∀ {us : List Value} {xs : List V}, RepL X us xs → withins (t.mem.map (·.1)) xs = true → RepL (X.keep s.mem (t.mem.map (·.1))) us xs := fun hr => by
          induction hr with
          | nil => exact fun _ => .nil
          | cons h1 _ ih =>
            intro hw
            simp only [withins, Bool.and_eq_true] at hw
            exact .cons (dr h1 hw.1) (ih hw.2)
        refine .inr (.inr ⟨⟨q0, hne⟩, ?_, ks, vs, es, ck, rfl, c1, c2, c3, drL c4 hw'.1, drL c5.1 hw'.2, c5.2⟩)
        simp only [Lay.keep, if_neg hne]; exact q1
    · refine ⟨by simp [Lay.keep, hg, he], by simp [he, I.uni], .inr (.inl ⟨fun ho => ho.2 hg, by simp [Lay.keep, hg, he], .inr he, ?_⟩)⟩
      rw [he]
      exact ⟨fun _ => undef, fun k hk => by simp [flat] at hk, fun k hk => by simp [flat] at hk⟩
  · intro id cs hcs
    have ht := R.ob id cs (h3 _ _ hcs)
    obtain ⟨cur, ty, c1, c2, c3, c4⟩ := ht.cells
    exact ⟨ht.cl, ⟨cur, ty, c1, c2, c3, fun k hk hk' => ⟨Rep.move (X := X) (Y := X.keep s.mem (t.mem.map (·.1))) (fun _ _ h => h) (fun _ _ _ => rfl) (c4 k hk hk').1 ((cleans_iff _).1 ht.cl _ (List.getElem_mem hk)), (c4 k hk hk').2⟩⟩, ht.S⟩
end
end Go.Proofs.YteomkgcepiecjaaGreat.I
/- Whole bodies: what their code does. -/
namespace Go.Proofs.YteomkgcepiecjaaGreat.I
open Go
set_option linter.unusedVariables false
set_option linter.unusedSimpArgs false
section
variable {P : Program}
structure Ext (B B' : Base) : Prop where
  fn : Grown B.w B'.w
  fb : ∀ b, b < B.w.heap.size → B.om b = none → B'.w.heap[b]? = B.w.heap[b]?
  fS : ∀ b o, B.S b o → B'.S b o
  fS' : ∀ b o, B'.S b o → b < B.w.heap.size → B.S b o
  fo : ∀ id, B'.om id ≠ none → id < B.w.heap.size → B.om id ≠ none
  mks : ∃ ms : List Nat, B'.ds = ms.map (fun D => { target := .collected D, args := #[] }) ++ B.ds ∧ ms.Nodup ∧ ∀ D ∈ ms, B.w.heap.size ≤ D ∧ D < B'.w.heap.size ∧ B'.om D = none ∧ B'.w.heap[D]? = some (.deferred (some []))
theorem Ext.refl (B : Base) : Ext B B := ⟨.refl _, fun _ _ _ => rfl, fun _ _ h => h, fun _ _ h _ => h, fun _ h _ => h, [], rfl, .nil, fun D h => by cases h⟩
theorem none_of {om om' : Om} {b n : Nat} (fo : ∀ id, om' id ≠ none → id < n → om id ≠ none) (h : b < n) (e : om b = none) : om' b = none := by
  cases e' : om' b with
  | none => rfl
  | some cs => exact absurd e (fo b (by rw [e']; simp) h)
theorem Ext.trans {A B C : Base} (h : Ext A B) (g : Ext B C) : Ext A C := by
  have hs := h.fn.size
  obtain ⟨m1, d1, n1, p1⟩ := h.mks
  obtain ⟨m2, d2, n2, p2⟩ := g.mks
  refine ⟨h.fn.trans g.fn, fun b hb e => (g.fb b (by omega) (none_of h.fo hb e)).trans (h.fb b hb e), fun b o hs => g.fS b o (h.fS b o hs), fun b o hs hb => h.fS' b o (g.fS' b o hs (by omega)) hb,
    fun id hid hb => h.fo id (g.fo id hid (by omega)) hb, m2 ++ m1, by rw [d2, d1]; simp, ?_, fun D hD => ?_⟩
  · refine List.nodup_append.2 ⟨n2, n1, fun x hx y hy e => ?_⟩
    have := (p2 x hx).1
    have := (p1 y hy).2.1
    omega
  · rcases List.mem_append.1 hD with hD | hD
    · obtain ⟨q1, q2, q3, q4⟩ := p2 D hD
      exact ⟨by omega, q2, q3, q4⟩
    · obtain ⟨q1, q2, q3, q4⟩ := p1 D hD
      exact ⟨q1, Nat.lt_of_lt_of_le q2 g.fn.size, none_of g.fo q2 q3, (g.fb D q2 q3).trans q4⟩
theorem Reach.behind {B : Base} {X : Lay} {om : Om} {w : World} {S : Nat → Nat → Prop} {om0 : Om} {ds : List Deferred} (h : Reach ⟨w, S, om0, ds⟩ X om) (h1 : Grown B.w w) (h2 : ∀ b, b < B.w.heap.size → B.om b = none → w.heap[b]? = B.w.heap[b]?)
    (h3 : ∀ b o, B.S b o → S b o) (h4 : ∀ id, om0 id ≠ none → id < B.w.heap.size → B.om id ≠ none) : Reach B X om := by
  have hs := h1.size
  exact ⟨h1.trans h.fn, fun b hb e => (h.fb b (by show b < w.heap.size; omega) (none_of h4 hb e)).trans (h2 b hb e), fun b o hs => h.fS b o (h3 b o hs), fun id hid hb => h4 id (h.fo id hid (by show id < w.heap.size; omega)) hb⟩
def AfterX (B : Base) (K : St → Prop) (a : Act) (w : World) : Prop := ∃ B' st X own, Ext B B' ∧ K st ∧ X.w = w ∧ Rel B' X own st a
theorem After.x {B : Base} {K : St → Prop} {a : Act} {w : World} : After B K a w → AfterX B K a w
  | ⟨st, X, own, hK, e, R⟩ => ⟨B, st, X, own, .refl B, hK, e, R⟩
def noRange : Code → Bool
  | .rangeFunc _ _ _ _ => false
  | .seq a b => noRange a && noRange b
  | .cond _ a b => noRange a && noRange b
  | .block _ c => noRange c
  | .loop c => noRange c
  | .scope c => noRange c
  | _ => true
def okCode (cx : Cx) : Code → Bool
  | .region _ ops false => ops.toList.all fun o => goodOp o.op
  | .region id ops true => (ops.toList.all fun o => goodOp o.op) && match lkS cx.sch id with
    | some (fl, t) => okS cx fl ops t
    | none => false
  | .seq a b => okCode cx a && okCode cx b
  | .cond c a b => goodO c && okCode cx a && okCode cx b
  | .block _ c => okCode cx c
  | .loop c => okCode cx c
  | .scope c => okCode cx c
  | .rangeFunc g _ a c => goodO g && (okCode cx a && okCode cx c && (noRange a && noRange c))
  | _ => true
def QR (B : Base) (Q : Ex → St → Prop) : Exit → Act → World → Prop
  | .normal, a, w => AfterX B (Q .nrm) a w
  | .exit id, a, w => AfterX B (Q (.exit id)) a w
  | .ret, a, w => AfterX B (Q .ret) a w
  | .goto l, a, w => AfterX B (Q (.gt l)) a w
  | _, _, _ => False
theorem condB_inv {c : V} {A B : Prop} (h : @condB c ⟨A⟩ ⟨B⟩) : ∃ x, c = .b x ∧ (x = true → A) ∧ (x = false → B) := by
  unfold condB at h
  split at h
  · exact ⟨_, rfl, h⟩
  · exact h.elim
theorem AfterX.ext {B B' : Base} (h : Ext B B') {K : St → Prop} {a : Act} {w : World} : AfterX B' K a w → AfterX B K a w
  | ⟨B'', s, X, own, hE, hK, e, R⟩ => ⟨B'', s, X, own, h.trans hE, hK, e, R⟩
theorem QR.ext {B B' : Base} (h : Ext B B') {Q : Ex → St → Prop} {e : Exit} {a : Act} {w : World} (hq : QR B' Q e a w) : QR B Q e a w := by
  cases e <;> first | exact hq.elim | exact AfterX.ext h hq
theorem Grown.putObj {a b : World} (h : Grown a b) (l : Nat) (o : Obj) : Grown a (b.putObj l o) := ⟨by rw [World.putObj_size]; exact h.size, h.os, h.tape, h.output⟩
def Lay.putObj (X : Lay) (l : Nat) (o : Obj) : Lay := { X with w := X.w.putObj l o, live := fun _ => False }
theorem at_put {X : Lay} {l : Nat} {o o' : Obj} (h : X.w.heap[l]? = some o') (h1 : ∀ cs ty q, o ≠ .cells cs ty q) (h2 : ∀ cs ty q, o' ≠ .cells cs ty q) (b k : Nat) : (X.putObj l o).at b k = X.at b k := by
  unfold Lay.at Lay.putObj
  by_cases e : b = l
  · subst e
    have hl : b < X.w.heap.size := (Array.getElem?_eq_some_iff.1 h).1
    simp only [World.cell?, World.putObj_heap_same hl, h]
    cases o <;> cases o' <;> simp_all
  · exact World.cell?_of_block (World.putObj_heap_other e)
theorem Thing.put {X : Lay} {id : Nat} {cs : List V} (t : Thing X id cs) {l : Nat} {o : Obj} (hn : id ≠ l) (le : ∀ v x, Rep X v x → x.clean = true → Rep (X.putObj l o) v x) : Thing (X.putObj l o) id cs := by
  obtain ⟨cur, ty, c1, c2, c3, c4⟩ := t.cells
  exact ⟨t.cl, ⟨cur, ty, (World.putObj_heap_other hn).trans c1, c2, c3, fun k hk hk' => ⟨le _ _ (c4 k hk hk').1 ((cleans_iff _).1 t.cl _ (List.getElem_mem hk)), (c4 k hk hk').2⟩⟩, t.S⟩
theorem clear1_rep {X : Lay} {v : Value} {x : V} (h : Rep X v x) {Y : Lay} (hm : x.clean = true → Rep Y v x) : Rep Y v (clear1 x) := by
  unfold clear1
  split
  · rename_i e; exact hm e
  · exact .u _
theorem Rel.putLoop {B : Base} {X : Lay} {own : Nat → Prop} {st : St} {a : Act} (R : Rel B X own st a) {l : Nat} {o o' : Obj} (h : X.w.heap[l]? = some o') (h1 : ∀ cs ty q, o ≠ .cells cs ty q) (h2 : ∀ cs ty q, o' ≠ .cells cs ty q) :
    Rel ⟨X.w.putObj l o, X.S, st.om, B.ds⟩ (X.putObj l o) (fun _ => False) ⟨st.env.map clear1, [], st.om⟩ a := by
  have hat := at_put h h1 h2
  have mv : ∀ v x, Rep X v x → x.clean = true → Rep (X.putObj l o) v x := fun v x hr hc => Rep.move (X := X) (Y := X.putObj l o) (fun _ _ h => h) (fun b k _ => hat b k) hr hc
  refine ⟨by rw [R.tm]; simp, fun k hk hk' => ?_, R.df, fun h => by simp [Mem.get, Lay.putObj], fun h H hH => by simp [Mem.get] at hH, fun _ _ h => h.elim, fun _ h => h.elim, fun id cs hcs => ?_, fun b k hs => ?_, .refl _, fun _ _ _ => rfl, fun _ _ h => h, fun _ _ h _ => h, fun _ h _ => h⟩
  · have hk0 : k < st.env.length := by simpa using hk
    have := R.rp k hk0 hk'
    simp only [List.getElem_map]
    exact clear1_rep this (mv _ _ this)
  · have ht := R.ob id cs hcs
    refine ht.put (fun e => ?_) mv
    subst e
    obtain ⟨cur, ty, c1, _⟩ := ht.cells
    rw [c1] at h; injection h with h; exact h2 _ _ _ h.symm
  · show b < (X.w.putObj l o).heap.size
    rw [World.putObj_size]; exact R.sb b k hs
theorem fill_rel {X : Lay} : ∀ (ts : List Tmp) (vs : List Value) (xs : List V) (t : Array Value) (e : List V), RepL X vs xs → ts.length = xs.length → t.size = e.length → (∀ k (h : k < e.length) (h' : k < t.size), Rep X t[k] e[k]) →
    ((ts.zip vs).foldl (fun t p => t.setIfInBounds p.1 p.2) t).size = (fillIn e ts xs).length ∧ ∀ k (h : k < (fillIn e ts xs).length) (h' : k < ((ts.zip vs).foldl (fun t p => t.setIfInBounds p.1 p.2) t).size), Rep X ((ts.zip vs).foldl (fun t p => t.setIfInBounds p.1 p.2) t)[k] (fillIn e ts xs)[k]
  | [], vs, xs, t, e, hr, hl, hs, h => by
    have : fillIn e [] xs = e := by cases xs <;> rfl
    simp only [List.zip_nil_left, List.foldl_nil, this]
    exact ⟨hs, h⟩
  | d :: ts, vs, xs, t, e, hr, hl, hs, h => by
    cases hr with
    | nil => simp at hl
    | cons hv hr =>
      rename_i v x vs xs
      simp only [List.zip_cons_cons, List.foldl_cons, fillIn]
      refine fill_rel ts vs xs _ _ hr (by simpa using hl) (by simp [hs]) fun k hk hk' => ?_
      by_cases ek : d = k
      · subst ek
        simp only [List.getElem_set_self, Array.getElem_setIfInBounds_self]
        exact hv
      · have e1 : (t.setIfInBounds d v)[k]'hk' = t[k]'(by simpa using hk') := Array.getElem_setIfInBounds_ne (by simpa using hk') ek
        have e2 : (e.set d x)[k]'hk = e[k]'(by simpa using hk) := List.getElem_set_ne ek _
        rw [e1, e2]
        exact h k (by simpa using hk) (by simpa using hk')
theorem wfs_of_repL {X : Lay} {vs : List Value} {args : List V} (hr : RepL X vs args) : wfs args := wfs_of_get fun k hk => (hr.get k (by rw [hr.len]; exact hk) hk).wf
theorem no_loop {X : Lay} {om : Om} (G : Good X om) {l : Nat} {o : Obj} (h : X.w.heap[l]? = some o) (h2 : ∀ cs ty q, o ≠ .cells cs ty q) : om l = none := by
  cases e : om l with
  | none => rfl
  | some cs =>
    obtain ⟨cur, ty, c1, _⟩ := (G.ob l cs e).cells
    rw [c1] at h; injection h with h; exact absurd h.symm (h2 _ _ _)
def Walks (P : Program) (cx : Cx) (c : Code) : Prop :=
  ∀ (F : Fence) (m : Nat), FW F → (F = Fence.wide ∨ noRange c = true) → ∀ (B : Base), (∀ l c, cx.y = some (l, c) → YOk P B l c) → ∀ (st : St) (Q : Ex → St → Prop) (X : Lay) (own : Nat → Prop) (a : Act),
    @wpc cx c st ⟨Q⟩ → Rel B X own st a → c.wpIn F m P (QR B Q) a X.w
theorem round_sound {cx : Cx} {assign c : Code} (W1 : Walks P cx assign) (W2 : Walks P cx c) (n1 : noRange assign = true) (n2 : noRange c = true) {B : Base} (Y : ∀ l c, cx.y = some (l, c) → YOk P B l c) {X : Lay} {own : Nat → Prop} {st : St} {a : Act} (R : Rel B X own st a)
    {fn : FuncId} {ps : Array Tmp} {D l : Nat} (hl : X.w.heap[l]? = some (.loop { state := .ready, pending := none, fn, tmps := a.tmps, params := ps, assign, body := c, defers := D })) (hne : B.w.heap.size ≤ l) {cy : Cn}
    (h : ∀ args om K, wfs args → @cy args om ⟨K⟩ → args.length = ps.size ∧
          @wpc cx assign ⟨fillIn (st.env.map clear1) ps.toList args, [], om⟩ ⟨fun | .nrm, st => @wpc cx c ⟨st.env.map clear1, [], st.om⟩ ⟨fun | .nrm, st => ∃ om', OmKept om' st.om ∧ K (.b true) om' | _, _ => False⟩ | _, _ => False⟩)
    (hm : Mono cy) : YOk P ⟨X.w, X.S, st.om, []⟩ l cy := by
  have hnl : ∀ cs ty q, (Obj.loop { state := .ready, pending := none, fn, tmps := a.tmps, params := ps, assign, body := c, defers := D }) ≠ .cells cs ty q := fun _ _ _ => by simp
  have hl0 : l < X.w.heap.size := (Array.getElem?_eq_some_iff.1 hl).1
  have hol : st.om l = none := no_loop R.good hl hnl
  refine ⟨hm, fun X' om args vs Q hr G hrep hcl hcy => ?_⟩
  have hs0 := hr.fn.size
  have hl1 : X'.w.heap[l]? = some (.loop { state := .ready, pending := none, fn, tmps := a.tmps, params := ps, assign, body := c, defers := D }) := (hr.fb l hl0 hol).trans hl
  obtain ⟨hlen, hw⟩ := h args om Q (wfs_of_repL hrep) hcy
  have hvl := hrep.len
  refine ⟨_, hl1, by show vs.length = ps.size; omega, fun F n hF => roundIn_of_wpIn (hF.fn _) ?_⟩
  rw [hF.round l]
  have hFr : FW (Fence.wide.inRound l) := .inr ⟨l, rfl⟩
  have mv : ∀ v x, Rep X v x → x.clean = true → Rep ({ X' with live := fun _ => False } : Lay) v x := fun v x hrp hc => Rep.move (X := X) (Y := { X' with live := fun _ => False }) (fun b o hs => hr.fS b o hs) (fun b o hs => by
    have hb := R.sb b o hs
    refine World.cell?_of_block (hr.fb b hb ?_)
    show st.om b = none
    cases e : st.om b with
    | none => rfl
    | some cs => exact absurd hs ((R.ob b cs e).S o)) hrp hc
  have hz : ((ps.zip vs.toArray).foldl (fun tmps (t, a) => tmps.setIfInBounds t a) a.tmps) = (ps.toList.zip vs).foldl (fun t p => t.setIfInBounds p.1 p.2) a.tmps := by
    rw [← Array.foldl_toList]
    simp
  have hfill := fill_rel (X := { X' with live := fun _ => False }) ps.toList vs args a.tmps (st.env.map clear1)
    (.of_get hvl fun k k1 k2 => Rep.move (X := X') (Y := { X' with live := fun _ => False }) (fun _ _ h => h) (fun _ _ _ => rfl) (hrep.get k k1 k2) ((cleans_iff _).1 hcl _ (List.getElem_mem k2))) (by simpa using hlen.symm) (by rw [R.tm]; simp) fun k hk hk' => by
      have hk0 : k < st.env.length := by simpa using hk
      have := R.rp k hk0 hk'
      simp only [List.getElem_map]
      exact clear1_rep this (mv _ _ this)
  have R0 : Rel ⟨X'.w, X'.S, om, []⟩ ({ X' with live := fun _ => False } : Lay) (fun _ => False) ⟨fillIn (st.env.map clear1) ps.toList args, [], om⟩ { tmps := (ps.zip vs.toArray).foldl (fun tmps (t, a) => tmps.setIfInBounds t a) a.tmps, defers := [] } := by
    rw [hz]
    refine ⟨hfill.1, hfill.2, rfl, fun h => by simp [Mem.get], fun h H hH => by simp [Mem.get] at hH, fun _ _ h => h.elim, fun _ h => h.elim, fun id cs hcs => ?_, G.sb, .refl _, fun _ _ _ => rfl, fun _ _ h => h, fun _ _ h _ => h, fun _ h _ => h⟩
    have ht := G.ob id cs hcs
    obtain ⟨cur, ty, c1, c2, c3, c4⟩ := ht.cells
    exact ⟨ht.cl, ⟨cur, ty, c1, c2, c3, fun k hk hk' => ⟨Rep.move (X := X') (Y := { X' with live := fun _ => False }) (fun _ _ h => h) (fun _ _ _ => rfl) (c4 k hk hk').1 ((cleans_iff _).1 ht.cl _ (List.getElem_mem hk)), (c4 k hk hk').2⟩⟩, ht.S⟩
  have hl0' : l < X'.w.heap.size := by have : X.w.heap.size ≤ X'.w.heap.size := hs0; omega
  have hol' : om l = none := no_loop G hl1 hnl
  have Y0 : ∀ l c, cx.y = some (l, c) → YOk P ⟨X'.w, X'.S, om, []⟩ l c := fun l c e => (Y l c e).reach fun Z oz hz => (hz.behind (B := ⟨X.w, X.S, st.om, []⟩) hr.fn hr.fb hr.fS hr.fo).behind R.fn R.fb R.fS R.fo
  refine wpIn_mono (W1 _ n hFr (.inr n1) _ Y0 _ _ ({ X' with live := fun _ => False } : Lay) _ _ hw R0) ?_
  rintro e a1 w1 hq
  cases e with
  | exit id => obtain ⟨_, _, _, _, _, hK, _⟩ := hq; exact hK.elim
  | goto t => obtain ⟨_, _, _, _, _, hK, _⟩ := hq; exact hK.elim
  | ret => obtain ⟨_, _, _, _, _, hK, _⟩ := hq; exact hK.elim
  | panic ch => exact hq.elim
  | outgrown => exact hq.elim
  | normal =>
  obtain ⟨B1, st1, X1, own1, E1, hK, rfl, R1⟩ := hq
  have hfb1 : ∀ b, b < X'.w.heap.size → om b = none → X1.w.heap[b]? = X'.w.heap[b]? := fun b hb e => (R1.fb b (by have := E1.fn.size; show b < B1.w.heap.size; exact Nat.lt_of_lt_of_le hb this) (none_of E1.fo hb e)).trans (E1.fb b hb e)
  have hl2 : X1.w.heap[l]? = some (.loop { state := .ready, pending := none, fn, tmps := a.tmps, params := ps, assign, body := c, defers := D }) := (hfb1 l hl0' hol').trans hl1
  refine ⟨_, run_beginRound hl2 rfl, ?_⟩
  have hnb : ∀ cs ty q, (Obj.loop { state := .busy, pending := none, fn, tmps := a.tmps, params := ps, assign, body := c, defers := D }) ≠ .cells cs ty q := fun _ _ _ => by simp
  have R2 := R1.putLoop hl2 hnb hnl
  have hgr1 : Grown X'.w X1.w := E1.fn.trans R1.fn
  have hfS1 : ∀ b o, X'.S b o → X1.S b o := fun b o hs => R1.fS b o (E1.fS b o hs)
  have hfS1' : ∀ b o, X1.S b o → b < X'.w.heap.size → X'.S b o := fun b o hs hb => E1.fS' b o (R1.fS' b o hs (Nat.lt_of_lt_of_le hb E1.fn.size)) hb
  have hfo1 : ∀ id, st1.om id ≠ none → id < X'.w.heap.size → om id ≠ none := fun id hid hb => E1.fo id (R1.fo id hid (Nat.lt_of_lt_of_le hb E1.fn.size)) hb
  have hgr2 : Grown X'.w (X1.w.putObj l (.loop { state := .busy, pending := none, fn, tmps := a.tmps, params := ps, assign, body := c, defers := D })) := hgr1.putObj _ _
  have Y2 : ∀ l' c', cx.y = some (l', c') → YOk P ⟨X1.w.putObj l (.loop { state := .busy, pending := none, fn, tmps := a.tmps, params := ps, assign, body := c, defers := D }), X1.S, st1.om, B1.ds⟩ l' c' := fun l' c' e =>
    (Y l' c' e).reach fun Z oz hz => by
      have hB : Reach B X st.om := R.reach
      refine hz.behind (hB.fn.trans (hr.fn.trans hgr2)) (fun b hb eb => ?_) (fun b o hs => hfS1 b o (hr.fS b o (hB.fS b o hs))) (fun id hid hb => ?_)
      · have hb1 : b < X.w.heap.size := Nat.lt_of_lt_of_le hb hB.fn.size
        have eb1 : st.om b = none := none_of hB.fo hb eb
        have hb2 : b < X'.w.heap.size := Nat.lt_of_lt_of_le hb1 hs0
        have eb2 : om b = none := none_of hr.fo hb1 eb1
        by_cases el : b = l
        · omega
        · rw [World.putObj_heap_other el, hfb1 b hb2 eb2, hr.fb b hb1 eb1, hB.fb b hb eb]
      · have hb1 : id < X.w.heap.size := Nat.lt_of_lt_of_le hb hB.fn.size
        exact hB.fo id (hr.fo id (hfo1 id hid (Nat.lt_of_lt_of_le hb1 hs0)) hb1) hb
  refine wpIn_mono (W2 _ n hFr (.inr n2) _ Y2 _ _ _ _ _ hK R2) ?_
  rintro e a3 w3 hq
  cases e with
  | exit id => obtain ⟨_, _, _, _, _, hK, _⟩ := hq; exact hK.elim
  | goto t => obtain ⟨_, _, _, _, _, hK, _⟩ := hq; exact hK.elim
  | ret => obtain ⟨_, _, _, _, _, hK, _⟩ := hq; exact hK.elim
  | panic ch => exact hq.elim
  | outgrown => exact hq.elim
  | normal =>
  obtain ⟨B3, st3, X3, own3, E3, ⟨om', hko, hQ⟩, rfl, R3⟩ := hq
  have hsz2 : (X1.w.putObj l (.loop { state := .busy, pending := none, fn, tmps := a.tmps, params := ps, assign, body := c, defers := D })).heap.size = X1.w.heap.size := World.putObj_size
  have hl01 : l < X1.w.heap.size := Nat.lt_of_lt_of_le hl0' hgr1.size
  have hol1 : st1.om l = none := none_of hfo1 hl0' hol'
  have hfb3 : ∀ b, b < X1.w.heap.size → st1.om b = none → X3.w.heap[b]? = (X1.w.putObj l (.loop { state := .busy, pending := none, fn, tmps := a.tmps, params := ps, assign, body := c, defers := D })).heap[b]? := fun b hb e =>
    (R3.fb b (Nat.lt_of_lt_of_le (by rw [← hsz2] at hb; exact hb) E3.fn.size) (none_of E3.fo (by rw [← hsz2] at hb; exact hb) e)).trans (E3.fb b (by rw [← hsz2] at hb; exact hb) e)
  have hl3 : X3.w.heap[l]? = some (.loop { state := .busy, pending := none, fn, tmps := a.tmps, params := ps, assign, body := c, defers := D }) := (hfb3 l hl01 hol1).trans (World.putObj_heap_same hl01)
  refine ⟨_, _, run_endRound none hl3, .bool true, X3.putObj l (.loop { state := .ready, pending := none, fn, tmps := a.tmps, params := ps, assign, body := c, defers := D }), .b true, om', rfl, rfl, hQ, .b true, rfl, ?_⟩
  have hat := at_put hl3 hnl hnb
  have mv3 : ∀ v x, Rep X3 v x → x.clean = true → Rep (X3.putObj l (.loop { state := .ready, pending := none, fn, tmps := a.tmps, params := ps, assign, body := c, defers := D })) v x := fun v x hr hc => Rep.move (X := X3) (Y := X3.putObj l _) (fun _ _ h => h) (fun b k _ => hat b k) hr hc
  have hgr3 : Grown X'.w X3.w := hgr2.trans (E3.fn.trans R3.fn)
  have hfo3 : ∀ id, st3.om id ≠ none → id < X1.w.heap.size → st1.om id ≠ none := fun id hid hb => E3.fo id (R3.fo id hid (Nat.lt_of_lt_of_le (by rw [← hsz2] at hb; exact hb) E3.fn.size)) (by rw [← hsz2] at hb; exact hb)
  have hko' : ∀ id, om' id ≠ none → st3.om id ≠ none := fun id hid => by
    cases e : om' id with
    | none => exact absurd e hid
    | some cs => rw [hko _ _ e]; simp
  refine ⟨fun id cs hcs => ?_, fun b k hs => ?_, hgr3.putObj _ _, fun b hb e => ?_, fun b o hs => R3.fS b o (E3.fS b o (hfS1 b o hs)), fun b o hs hb => ?_, fun id hid hb => ?_⟩
  · have ht := R3.ob id cs (hko _ _ hcs)
    refine ht.put (fun e => ?_) mv3
    subst e
    obtain ⟨cur, ty, c1, _⟩ := ht.cells
    rw [c1] at hl3; injection hl3 with hl3; cases hl3
  · show b < (X3.w.putObj l _).heap.size
    rw [World.putObj_size]; exact R3.sb b k hs
  · show (X3.w.putObj l _).heap[b]? = X'.w.heap[b]?
    by_cases el : b = l
    · subst el
      rw [World.putObj_heap_same (Nat.lt_of_lt_of_le hb hgr3.size), hl1]
    · have hb1 : b < X1.w.heap.size := Nat.lt_of_lt_of_le hb hgr1.size
      rw [World.putObj_heap_other el, hfb3 b hb1 (none_of hfo1 hb e), World.putObj_heap_other el]
      exact hfb1 b hb e
  · exact hfS1' b o (E3.fS' b o (R3.fS' b o hs (Nat.lt_of_lt_of_le (by show b < (X1.w.putObj l _).heap.size; rw [hsz2]; exact Nat.lt_of_lt_of_le hb hgr1.size) E3.fn.size)) (by show b < (X1.w.putObj l _).heap.size; rw [hsz2]; exact Nat.lt_of_lt_of_le hb hgr1.size)) hb
  · exact hfo1 id (hfo3 id (hko' id hid) (Nat.lt_of_lt_of_le hb hgr1.size)) hb
theorem YOk.ext {B B' : Base} {l : Nat} {c : Cn} (h : YOk P B l c) (e : Ext B B') : YOk P B' l c :=
  h.reach fun X om hr => hr.behind e.fn e.fb e.fS e.fo
def WalksL (P : Program) (cx : Cx) (l : Nat) (c rest : Code) : Prop :=
  ∀ (F : Fence) (m : Nat), FW F → (F = Fence.wide ∨ noRange c = true) → ∀ (B : Base), (∀ l c, cx.y = some (l, c) → YOk P B l c) → ∀ (st : St) (Q : Ex → St → Prop) (X : Lay) (own : Nat → Prop) (a : Act),
    @wpl cx l c st ⟨Q⟩ → Rel B X own st a → rest.wpIn F m P (QR B Q) a X.w
mutual
theorem wpc_sound {cx : Cx} (C : COk P cx) (hx : P.follows .mixedOrders = true) : ∀ (c : Code), okCode cx c = true → Walks P cx c
  | .skip, _, F, m, hF, hn, B, Y, st, Q, X, own, a, h, R => wpIn_skip ⟨B, st, X, own, .refl B, h, rfl, R⟩
  | .label l, _, F, m, hF, hn, B, Y, st, Q, X, own, a, h, R => wpIn_label ⟨B, st, X, own, .refl B, h, rfl, R⟩
  | .ret, _, F, m, hF, hn, B, Y, st, Q, X, own, a, h, R => wpIn_ret ⟨B, st, X, own, .refl B, h, rfl, R⟩
  | .exit id, _, F, m, hF, hn, B, Y, st, Q, X, own, a, h, R => wpIn_exit ⟨B, st, X, own, .refl B, h, rfl, R⟩
  | .seq x y, hk, F, m, hF, hn, B, Y, st, Q, X, own, a, h, R => by
    simp only [okCode, Bool.and_eq_true] at hk
    have hn' : (F = Fence.wide ∨ noRange x = true) ∧ (F = Fence.wide ∨ noRange y = true) := by
      rcases hn with e | e
      · exact ⟨.inl e, .inl e⟩
      · simp only [noRange, Bool.and_eq_true] at e; exact ⟨.inr e.1, .inr e.2⟩
    refine wpIn_seq (wpIn_mono (wpc_sound C hx x hk.1 F m hF hn'.1 B Y st _ X own a h R) ?_)
    rintro e a w hq
    cases e with
    | normal =>
      obtain ⟨B', st', X', own', hE, hK, rfl, R'⟩ := hq
      exact wpIn_mono (wpc_sound C hx y hk.2 F m hF hn'.2 B' (fun l c e => (Y l c e).ext hE) st' Q X' own' a hK R') fun e a w hq => QR.ext hE hq
    | exit id => exact hq
    | goto l => exact hq
    | ret => exact hq
    | panic ch => exact hq.elim
    | outgrown => exact hq.elim
  | .cond x y z, hk, F, m, hF, hn, B, Y, st, Q, X, own, a, h, R => by
    simp only [okCode, Bool.and_eq_true] at hk
    have hn' : (F = Fence.wide ∨ noRange y = true) ∧ (F = Fence.wide ∨ noRange z = true) := by
      rcases hn with e | e
      · exact ⟨.inl e, .inl e⟩
      · simp only [noRange, Bool.and_eq_true] at e; exact ⟨.inr e.1, .inr e.2⟩
    obtain ⟨b, hb, h1, h2⟩ := condB_inv h
    have hxx := R.opd hk.1.1
    rw [hb] at hxx
    have hc : a.eval x = .bool b := by generalize a.eval x = v at hxx; cases hxx; rfl
    cases b with
    | true => exact wpIn_cond_true hc (wpc_sound C hx y hk.1.2 F m hF hn'.1 B Y st Q X own a (h1 rfl) R)
    | false => exact wpIn_cond_false hc (wpc_sound C hx z hk.2 F m hF hn'.2 B Y st Q X own a (h2 rfl) R)
  | .block id c, hk, F, m, hF, hn, B, Y, st, Q, X, own, a, h, R => by
    simp only [okCode] at hk
    refine wpIn_block (wpIn_mono (wpc_sound C hx c hk F m hF hn B Y st _ X own a h R) ?_)
    rintro e a w hq
    cases e with
    | normal => exact hq
    | exit j =>
      simp only [QR] at hq
      simp only [Exit.inBlock]
      split
      · rename_i e; simp only [e, if_true] at hq; exact hq
      · rename_i e; simp only [e, if_false] at hq; exact hq
    | goto l => exact hq
    | ret => exact hq
    | panic ch => exact hq.elim
    | outgrown => exact hq.elim
  | .scope c, hk, F, m, hF, hn, B, Y, st, Q, X, own, a, h, R => by
    simp only [okCode] at hk
    simp only [wpc] at h
    cases hgs : cx.gs with
    | none =>
      rw [hgs] at h
      refine wpIn_scope' (wpIn_mono (wpc_sound C hx c hk F m hF hn B Y st _ X own a h R) ?_)
      rintro e a w hq
      cases e with
      | goto l => obtain ⟨_, _, _, _, _, hK, _⟩ := hq; exact hK.elim
      | _ => exact hq
    | some l =>
      rw [hgs] at h
      simp only at h
      cases hl : hasL l c with
      | false =>
        rw [hl] at h
        refine wpIn_scopeG (wpIn_mono (wpc_sound C hx c hk F m hF hn B Y st _ X own a h R) ?_)
        rintro e a w hq
        cases e with
        | goto j =>
          obtain ⟨B', st', X', own', hE, ⟨rfl, hK⟩, ew, R'⟩ := hq
          exact ⟨⟨B', st', X', own', hE, hK, ew, R'⟩, fun l' e => by cases e; exact findLabel_none hl⟩
        | normal => exact ⟨hq, fun _ e => by cases e⟩
        | exit id => exact ⟨hq, fun _ e => by cases e⟩
        | ret => exact ⟨hq, fun _ e => by cases e⟩
        | panic ch => exact hq.elim
        | outgrown => exact hq.elim
      | true =>
        rw [hl] at h
        obtain ⟨σ, E, cc, μ, hA, hR⟩ := h
        obtain ⟨rest, hf, W⟩ := wpl_sound C hx l c hk hl
        refine wpIn_scope_goto hf (fun x a w => cc x ∧ ∃ B' X own, Ext B B' ∧ X.w = w ∧ Rel B' X own (E x) a) μ (wpIn_mono (wpc_sound C hx c hk F m hF hn B Y st _ X own a hA R) ?_) ?_
        · rintro e a w hq
          cases e with
          | goto j =>
            obtain ⟨B', s, X, own, hE, ⟨rfl, x, hx', hle⟩, rfl, R⟩ := hq
            exact ⟨rfl, x, hx', B', X.keep _ _, _, hE, rfl, R.weaken hle⟩
          | normal => exact hq
          | exit id => exact hq
          | ret => exact hq
          | panic ch => exact hq.elim
          | outgrown => exact hq.elim
        · rintro x a w ⟨hx', B', X, own, hE, rfl, R⟩
          refine wpIn_mono (W F m hF hn B' (fun l c e => (Y l c e).ext hE) (E x) _ X own a (hR x hx') R) ?_
          rintro e a w hq
          cases e with
          | goto j =>
            obtain ⟨B'', s, X, own, hE', ⟨rfl, y, hy, hle, hlt⟩, rfl, R⟩ := hq
            exact ⟨rfl, y, hlt, hy, B'', X.keep _ _, _, hE.trans hE', rfl, R.weaken hle⟩
          | normal => exact AfterX.ext hE hq
          | exit id => exact AfterX.ext hE hq
          | ret => exact AfterX.ext hE hq
          | panic ch => exact hq.elim
          | outgrown => exact hq.elim
  | .loop c, hk, F, m, hF, hn, B, Y, st, Q, X, own, a, h, R => by
    simp only [okCode] at hk
    obtain ⟨σ, E, cc, μ, ⟨x, hcx, hle⟩, hround⟩ := h
    refine wpIn_loop_ix (I := fun x a w => cc x ∧ ∃ B' X own, Ext B B' ∧ X.w = w ∧ Rel B' X own (E x) a) μ (x := x) ⟨hcx, B, X.keep _ _, _, .refl B, rfl, R.weaken hle⟩ ?_
    rintro y a w ⟨hy, B', X, own, hE, rfl, R⟩
    refine wpIn_mono (wpc_sound C hx c hk F m hF hn B' (fun l c e => (Y l c e).ext hE) (E y) _ X own a (hround y hy) R) ?_
    rintro e a w hq
    cases e with
    | normal =>
      obtain ⟨B'', s, X, own, hE', ⟨z, hz, hle, hlt⟩, rfl, R⟩ := hq
      exact ⟨z, ⟨hz, B'', X.keep _ _, _, hE.trans hE', rfl, R.weaken hle⟩, hlt⟩
    | exit id => exact AfterX.ext hE hq
    | goto l => exact AfterX.ext hE hq
    | ret => exact AfterX.ext hE hq
    | panic ch => exact hq.elim
    | outgrown => exact hq.elim
  | .region id ops false, hk, F, m, hF, hn, B, Y, st, Q, X, own, a, h, R => by
    simp only [okCode] at hk
    refine wpIn_region ?_
    have := exs_sound C (B := B) Y (m := m) hF (ops := ops) (K := Q .nrm) (Q := QR B Q) (fun o ho => List.all_eq_true.1 hk o ho) (fun a w h => After.x h) ops.toList 0 rfl st X own a h R
    simpa [List.range_eq_range'] using this
  | .region id ops true, hk, F, m, hF, hn, B, Y, st, Q, X, own, a, h, R => by
    simp only [okCode, Bool.and_eq_true] at hk
    simp only [wpc] at h
    obtain ⟨⟨fl, t⟩, hp, h⟩ := so_inv h
    obtain ⟨hk1, hk2⟩ := hk
    simp only [hp] at hk2
    replace hk2 := okT_of_okS hk2
    refine wpIn_region_any hx ?_
    have R' := R.drew (w := { X.w with drawn := X.w.drawn + 1 }) ⟨rfl, rfl, rfl, rfl⟩
    refine any_sound C Y hF (fl := fl) (K := Q .nrm) (Q := QR B Q) (fun o ho => List.all_eq_true.1 hk1 o ho) (fun a w h => After.x h) ops.size _ t st _ own a ?_ hk2 h R'
    exact leftN_le _ _
  | .goto l, _, F, m, hF, hn, B, Y, st, Q, X, own, a, h, R => wpIn_goto ⟨B, st, X, own, .refl B, h, rfl, R⟩
  | .refuse _, _, _, _, _, _, _, _, _, _, _, _, _, h, _ => h.elim
  | .rangeFunc g ps assign c, hk, F, m, hF, hn, B, Y, st, Q, X, own, a, h, R => by
    simp only [okCode, Bool.and_eq_true] at hk
    obtain ⟨hg, ⟨hk1, hk2⟩, hn1, hn2⟩ := hk
    have hw : F = Fence.wide := by
      rcases hn with e | e
      · exact e
      · simp [noRange] at e
    subst hw
    simp only [wpc] at h
    unfold rangeR at h
    have hgv := R.opd hg
    split at h <;> first | exact h.elim | skip
    rename_i f caps hgf
    rw [hgf] at hgv
    obtain ⟨hcl, h⟩ := h
    obtain ⟨rc, hrc, cy, hround, hmono, h⟩ := so_inv h
    obtain ⟨ws, hev, hws⟩ : ∃ ws : Array Value, a.eval g = .func (.func f) #[] ws ∧ RepL X ws.toList caps := by
      generalize a.eval g = v at hgv
      cases hgv with
      | fn _ vs _ us _ z1 z2 h1 h2 =>
        have e1 : vs = #[] := by simpa using z1
        subst e1
        exact ⟨us, rfl, .of_arr z2 h2⟩
    have hok := C.rs f rc hrc
    refine wpIn_rangeFunc fun fn _ => ?_
    obtain ⟨rec, hrec⟩ : ∃ rec : Loop, rec = { state := .ready, pending := none, fn, tmps := a.tmps, params := ps, assign, body := c, defers := X.w.heap.size } := ⟨_, rfl⟩
    obtain ⟨le1, R1⟩ := R.block (.deferred (some [])) 0
    obtain ⟨le2, R2⟩ := R1.block (.loop rec) 0
    obtain ⟨X2, hX2⟩ : ∃ X2, X2 = (X.block (.deferred (some [])) 0).block (.loop rec) 0 := ⟨_, rfl⟩
    rw [← hX2] at le2 R2
    have hw2 : X2.w = (X.w.alloc (.deferred (some []))).alloc (.loop rec) := by rw [hX2]; rfl
    have hl : X2.w.heap[X.w.heap.size + 1]? = some (.loop rec) := by
      rw [hw2]
      have := World.alloc_heap_new (X.w.alloc (.deferred (some []))) (.loop rec)
      rwa [World.size_alloc] at this
    have hD : X2.w.heap[X.w.heap.size]? = some (.deferred (some [])) := by
      rw [hw2, heap_alloc_old _ _ _ (by rw [World.size_alloc]; omega)]
      exact World.alloc_heap_new X.w _
    have hsz2 : X2.w.heap.size = X.w.heap.size + 2 := by rw [hw2, World.size_alloc, World.size_alloc]
    have hnl : ∀ r : Loop, ∀ cs ty q, (Obj.loop r) ≠ .cells cs ty q := fun _ _ _ _ => by simp
    have hol : st.om (X.w.heap.size + 1) = none := no_loop R2.good hl (hnl _)
    have hoD : st.om X.w.heap.size = none := no_loop R2.good hD fun _ _ _ => by simp
    have hBX := R.fn.size
    have yok : YOk P ⟨X2.w, X2.S, st.om, []⟩ (X.w.heap.size + 1) cy :=
      round_sound (wpc_sound C hx assign hk1) (wpc_sound C hx c hk2) hn1 hn2 Y R2 (by rw [hl, hrec]) (by omega) hround hmono
    have hcalls := hok.tells (X.w.heap.size + 1) cy X2 st.om caps ws.toList (fun _ om => Q .nrm ⟨st.env.map clear1, [], om⟩) yok R2.good ((hws.mono le1).mono le2) hcl h
    refine ⟨X.w.heap.size + 1, [{ target := .collected X.w.heap.size, args := #[] }], X2.w, { target := .fn (.func f) ws, args := #[.func (.yield (X.w.heap.size + 1)) #[] #[]] }, X2.w, f, #[.func (.yield (X.w.heap.size + 1)) #[] #[]] ++ ws, X2.w,
      ?_, ?_, fun _ _ => trivial, ?_, (fun hh => by cases hh), ?_⟩
    · have := run_enterLoop_outer (P := P) (w := X.w) fn a.tmps ps assign c
      rw [hw2, hrec]; exact this
    · have hcst : ∀ v, a.eval (.const v) = v := fun _ => rfl
      simp [resolve, rangeCall, Deferred.ofValue, hev, hcst]
    · simp [invoke, hok.run]
    · have hcalls' : Tells P f X2 st.om (#[.func (.yield (X.w.heap.size + 1)) #[] #[]] ++ ws) fun _ om => Q .nrm ⟨st.env.map clear1, [], om⟩ := by simpa using hcalls
      refine callsIn_wide.2 (Calls.mono hcalls' ?_)
      rintro e w' ⟨v, Z, r, om', rfl, rfl, hQ, hrep, _, hkept⟩
      have hl3 : Z.w.heap[X.w.heap.size + 1]? = some (.loop rec) := (hkept.fb _ (by show _ < X2.w.heap.size; omega) hol).trans hl
      have hr1 : rec.state = .ready := by rw [hrec]
      have hr2 : rec.pending = none := by rw [hrec]
      refine ⟨none, Z.w.putObj (X.w.heap.size + 1) (.loop { rec with state := .exhausted }), ?_, ?_⟩
      · rw [run_endLoop hl3 (by rw [hr1]; simp), hr2]
      · have hat := at_put hl3 (hnl { rec with state := .exhausted }) (hnl rec)
        have mvZ : ∀ v x, Rep Z v x → x.clean = true → Rep (Z.putObj (X.w.heap.size + 1) (.loop { rec with state := .exhausted })) v x := fun v x hr hc => Rep.move (X := Z) (Y := Z.putObj (X.w.heap.size + 1) (.loop { rec with state := .exhausted })) (fun _ _ h => h) (fun b k _ => hat b k) hr hc
        have mv : ∀ v x, Rep X v x → x.clean = true → Rep (Z.putObj (X.w.heap.size + 1) (.loop { rec with state := .exhausted })) v x := fun v x hr hc =>
          mvZ v x (Rep.move (X := X) (fun b o hs => hkept.fS b o (le2.S b o (le1.S b o hs))) (fun b o hs => by
            have e1 : X2.at b o = X.at b o := (le2.w b o (le1.S b o hs)).trans (le1.w b o hs)
            rw [← e1]
            refine World.cell?_of_block (hkept.fb b (R2.sb b o (le2.S b o (le1.S b o hs))) ?_)
            show st.om b = none
            cases e : st.om b with
            | none => rfl
            | some cs => exact absurd hs ((R.ob b cs e).S o)) hr hc) hc
        have hgr : Grown X.w Z.w := ⟨by have := hkept.fn.size; have h' : X2.w.heap.size ≤ Z.w.heap.size := this; omega, by rw [hkept.fn.os]; show X2.w.os = _; rw [hw2]; rfl, by rw [hkept.fn.tape]; show X2.w.tape = _; rw [hw2]; rfl, by rw [hkept.fn.output]; show X2.w.output = _; rw [hw2]; rfl⟩
        have hszZ : X2.w.heap.size ≤ Z.w.heap.size := hkept.fn.size
        have hfo : ∀ id, om' id ≠ none → id < X.w.heap.size → st.om id ≠ none := fun id hid hb => hkept.fo id hid (by show id < X2.w.heap.size; omega)
        refine ⟨⟨Z.w.putObj (X.w.heap.size + 1) (.loop { rec with state := .exhausted }), Z.S, om', { target := .collected X.w.heap.size, args := #[] } :: B.ds⟩, ⟨st.env.map clear1, [], om'⟩, Z.putObj (X.w.heap.size + 1) (.loop { rec with state := .exhausted }), fun _ => False, ?_, hQ, rfl, ?_⟩
        · refine ⟨(R.fn.trans hgr).putObj _ _, fun b hb e => ?_, fun b o hs => hkept.fS b o (le2.S b o (le1.S b o (R.fS b o hs))), fun b o hs hb => ?_, fun id hid hb => R.fo id (hfo id hid (by omega)) hb, [X.w.heap.size], rfl, by simp, fun D hDD => ?_⟩
          · rw [World.putObj_heap_other (by omega)]
            have e1 := hkept.fb b (by show b < X2.w.heap.size; omega) (none_of R.fo hb e)
            rw [e1]
            show X2.w.heap[b]? = _
            rw [hw2, heap_alloc_old _ _ _ (by rw [World.size_alloc]; omega), heap_alloc_old _ _ _ (by omega)]
            exact R.fb b hb e
          · have h1 := hkept.fS' b o hs (by show b < X2.w.heap.size; omega)
            exact R2.fS' b o h1 hb
          · rw [List.mem_singleton.1 hDD]
            refine ⟨hBX, by show _ < (Z.w.putObj _ _).heap.size; rw [World.putObj_size]; omega, none_of (n := X2.w.heap.size) (fun id hid hb => hkept.fo id hid hb) (by omega) hoD, ?_⟩
            show (Z.w.putObj _ _).heap[_]? = _
            rw [World.putObj_heap_other (by omega)]
            exact (hkept.fb _ (by show _ < X2.w.heap.size; omega) hoD).trans hD
        · refine ⟨by rw [R.tm]; simp, fun k hk hk' => ?_, by simp [R.df], fun h => by simp [Mem.get, Lay.putObj], fun h H hH => by simp [Mem.get] at hH, fun _ _ h => h.elim, fun _ h => h.elim, fun id cs hcs => ?_, fun b k hs => ?_, .refl _, fun _ _ _ => rfl, fun _ _ h => h, fun _ _ h _ => h, fun _ h _ => h⟩
          · have hk0 : k < st.env.length := by simpa using hk
            have := R.rp k hk0 hk'
            simp only [List.getElem_map]
            exact clear1_rep this (mv _ _ this)
          · have ht := hkept.ob id cs hcs
            refine ht.put (fun e => ?_) mvZ
            subst e
            obtain ⟨cur, ty, c1, _⟩ := ht.cells
            rw [c1] at hl3; injection hl3 with hl3; cases hl3
          · show b < (Z.w.putObj _ _).heap.size
            rw [World.putObj_size]; exact hkept.sb b k hs
theorem wpl_sound {cx : Cx} (C : COk P cx) (hx : P.follows .mixedOrders = true) (l : Nat) : ∀ (c : Code), okCode cx c = true → hasL l c = true → ∃ rest, findLabel c l = some rest ∧ WalksL P cx l c rest
  | .label j, _, h => by
    simp only [hasL, beq_iff_eq] at h
    subst h
    exact ⟨.skip, by simp [findLabel], fun F m hF hn B Y st Q X own a h R => wpIn_skip ⟨B, st, X, own, .refl B, h, rfl, R⟩⟩
  | .seq x y, hk, h => by
    simp only [okCode, Bool.and_eq_true] at hk
    have hn' : ∀ F : Fence, (F = Fence.wide ∨ noRange (.seq x y) = true) → (F = Fence.wide ∨ noRange x = true) ∧ (F = Fence.wide ∨ noRange y = true) := fun F hn => by
      rcases hn with e | e
      · exact ⟨.inl e, .inl e⟩
      · simp only [noRange, Bool.and_eq_true] at e; exact ⟨.inr e.1, .inr e.2⟩
    cases hl : hasL l x with
    | true =>
      obtain ⟨r, hr, W⟩ := wpl_sound C hx l x hk.1 hl
      refine ⟨.seq r y, by simp [findLabel, hr], fun F m hF hn B Y st Q X own a h R => ?_⟩
      simp only [wpl, hl] at h
      refine wpIn_seq (wpIn_mono (W F m hF (hn' F hn).1 B Y st _ X own a h R) ?_)
      rintro e a w hq
      cases e with
      | normal =>
        obtain ⟨B', st', X', own', hE, hK, rfl, R'⟩ := hq
        exact wpIn_mono (wpc_sound C hx y hk.2 F m hF (hn' F hn).2 B' (fun l c e => (Y l c e).ext hE) st' Q X' own' a hK R') fun e a w hq => QR.ext hE hq
      | exit id => exact hq
      | goto l => exact hq
      | ret => exact hq
      | panic ch => exact hq.elim
      | outgrown => exact hq.elim
    | false =>
      have hy : hasL l y = true := by simpa [hasL, hl] using h
      obtain ⟨r, hr, W⟩ := wpl_sound C hx l y hk.2 hy
      refine ⟨r, by simp [findLabel, findLabel_none hl, hr], fun F m hF hn B Y st Q X own a h R => ?_⟩
      simp only [wpl, hl] at h
      exact W F m hF (hn' F hn).2 B Y st Q X own a h R
  | .skip, _, h => by cases h
  | .region .., _, h => by cases h
  | .cond .., _, h => by cases h
  | .block .., _, h => by cases h
  | .loop _, _, h => by cases h
  | .rangeFunc .., _, h => by cases h
  | .exit _, _, h => by cases h
  | .scope _, _, h => by cases h
  | .goto _, _, h => by cases h
  | .ret, _, h => by cases h
  | .refuse _, _, h => by cases h
end
end
end Go.Proofs.YteomkgcepiecjaaGreat.I
/- A function keeps a contract, if its body does. -/
namespace Go.Proofs.YteomkgcepiecjaaGreat.I
open Go
set_option linter.unusedVariables false
set_option linter.unusedSimpArgs false
section
variable {P : Program}
def resF (tmps : Array Value) : ResultVar → Sem Value
  | .tmp t => pure (tmps.getD t undef)
  | .cell a t => do loadVar t (← asAddr (tmps.getD a undef))
def resV (P : Program) (w : World) (tmps : Array Value) (r : ResultVar) : Value :=
  match (resF tmps r).run P w with
  | .ok v _ => v
  | _ => undef
theorem resOne_sound {cx : Cx} (C : COk P cx) {B : Base} {X : Lay} {own : Nat → Prop} {st : St} {a : Act} (R : Rel B X own st a) {r : ResultVar} {K : V → Prop} (h : @resOne cx st r ⟨K⟩) :
    ∃ x, K x ∧ Rep X (resV P X.w a.tmps r) x ∧ (resF a.tmps r).run P X.w = .ok (resV P X.w a.tmps r) X.w := by
  cases r with
  | tmp t =>
    refine ⟨_, h, ?_, ?_⟩
    · have := R.get t
      simpa [resV, resF] using this
    · simp [resV, resF]
  | cell t ty =>
    have hx := R.get t
    have hp : ∃ ad, a.tmps.getD t undef = .pointer (some ad) := by
      simp only [resOne, load] at h
      obtain ⟨i, hi, h⟩ := ti_inv h
      split at h <;> first | exact h.elim | skip
      all_goals
        rename_i heq
        rw [heq] at hx
        generalize a.tmps.getD t undef = v at hx
        cases hx
        exact ⟨_, rfl⟩
    obtain ⟨ad, had⟩ := hp
    obtain ⟨x, u, hK, hr, hrun⟩ := load_sound C R h hx
    have e : (resF a.tmps (.cell t ty)).run P X.w = .ok u X.w := by
      rw [had] at hrun
      simp only [Instr.loadAt, Instr.sureAddr, Sem.run_bind, Sem.run_pure, Result.andThen_ok] at hrun
      simp [resF, had, asAddr, hrun]
    have ev : resV P X.w a.tmps (.cell t ty) = u := by simp [resV, e]
    exact ⟨x, hK, by rw [ev]; exact hr, by rw [e, ev]⟩
theorem resAll_sound {cx : Cx} (C : COk P cx) {B : Base} {X : Lay} {own : Nat → Prop} {st : St} {a : Act} (R : Rel B X own st a) : ∀ {rs : List ResultVar} {K : List V → Prop}, @resAll cx st rs ⟨K⟩ →
    ∃ xs, K xs ∧ RepL X (rs.map (resV P X.w a.tmps)) xs ∧ ∀ r ∈ rs, (resF a.tmps r).run P X.w = .ok (resV P X.w a.tmps r) X.w
  | [], K, h => ⟨[], h, .nil, by simp⟩
  | r :: rs, K, h => by
    obtain ⟨x, h, hr, hrun⟩ := resOne_sound C R h
    obtain ⟨xs, h, hrs, hruns⟩ := resAll_sound C R h
    refine ⟨x :: xs, h, .cons hr hrs, fun q hq => ?_⟩
    rcases List.mem_cons.1 hq with rfl | hq
    · exact hrun
    · exact hruns q hq
theorem Rel.melt {B : Base} {X : Lay} {own : Nat → Prop} {st : St} {a : Act} (R : Rel B X own st a) {id : Nat} {cs : List V} (hcs : st.om id = some cs) (h0 : B.om id = none) :
    X.Le (X.fast id cs.length) ∧ Rel B (X.fast id cs.length) own ⟨st.env, st.mem, st.om.del id⟩ a ∧ Fixed (X.fast id cs.length) id 0 cs := by
  have le := X.fast_le id cs.length
  have ht := R.ob id cs hcs
  have hblk : id < X.w.heap.size := by
    obtain ⟨cur, ty, h1, _⟩ := ht.cells
    exact (Array.getElem?_eq_some_iff.1 h1).1
  have hb : B.w.heap.size ≤ id := by
    rcases Nat.lt_or_ge id B.w.heap.size with h | h
    · exact absurd h0 (R.fo id (by rw [hcs]; simp) h)
    · exact h
  refine ⟨le, ⟨R.tm, fun k g g' => (R.rp k g g').mono le, R.df, R.lv, ?_, R.ij, fun g hl ho => ?_, ?_, ?_, R.fn, R.fb, fun b o hs => .inl (R.fS b o hs), ?_, ?_⟩, ht.cells.fixed⟩
  · intro g G hG
    have hl : X.live g := (R.lv g).2 (by simp [hG])
    refine (R.hm _ _ hG).mono le rfl rfl rfl Iff.rfl (fun _ => rfl) fun o ho' hs => ?_
    rcases hs with hs | hs
    · exact hs
    · have := R.dj g hl ho'
      rw [hs.1, hcs] at this; cases this
  · have := R.dj g hl ho
    simp only [Om.del]
    split
    · rfl
    · exact this
  · intro i ds hds
    simp only [Om.del] at hds
    split at hds
    · cases hds
    · rename_i e
      have ht' := R.ob i ds hds
      refine ht'.mono le rfl fun o hs => ?_
      rcases hs with hs | hs
      · exact ht'.S o hs
      · exact e hs.1
  · intro b o hs
    rcases hs with hs | hs
    · exact R.sb b o hs
    · rw [hs.1]; exact hblk
  · intro b o hs hlt
    rcases hs with hs | hs
    · exact R.fS' b o hs hlt
    · rw [hs.1] at hlt; omega
  · intro i hi hlt
    simp only [Om.del] at hi
    split at hi
    · exact absurd rfl hi
    · exact R.fo i hi hlt
theorem melt_sound {B : Base} {X : Lay} {own : Nat → Prop} {st : St} {a : Act} (R : Rel B X own st a) {x : V} {K : St → V → Prop} {v : Value} (h : @I.melt B.om st x ⟨K⟩) (hx : Rep X v x) :
    ∃ st' Y y, K st' y ∧ X.Le Y ∧ Y.w = X.w ∧ Rel B Y own st' a ∧ Rep Y v y ∧ y.clean = true := by
  unfold I.melt at h
  split at h
  · rename_i id off len cap
    obtain ⟨h0, h⟩ := h
    obtain ⟨cs, hcs, ⟨h1, h2⟩, h⟩ := so_inv h
    obtain ⟨le, R', hf⟩ := R.melt hcs h0
    have hcl := (R.ob id cs hcs).cl
    have hlen : ((cs.drop off).take len).length = len := by simp; omega
    cases hx with
    | ow _ _ _ _ ad q1 q2 q3 =>
    refine ⟨_, _, _, h, le, rfl, R', ?_, rfl⟩
    by_cases e : len = 0
    · subst e; simp only [List.take_zero]; exact .sl0 _ _
    · have := q3 (by omega)
      subst this
      have hs := hf.sub off len
      rw [Nat.zero_add] at hs
      rw [← flat_one h2] at hs
      have := Rep.sl_fixed (c := cap) (by omega) q2 (cleans_take _ (cleans_drop _ hcl)) (uni_len h2) hs
      rwa [hlen] at this
  · obtain ⟨st', Y, y, h, le, ew, R', hy, hc, _⟩ := give_sound R h hx
    exact ⟨st', Y, y, h, le, ew, R', hy, hc⟩
theorem melts_sound {B : Base} {own : Nat → Prop} {a : Act} : ∀ {xs : List V} {vs : List Value} {X : Lay} {st : St} {K : St → List V → Prop}, Rel B X own st a → @melts B.om st xs ⟨K⟩ → RepL X vs xs →
    ∃ st' Y ys, K st' ys ∧ Y.w = X.w ∧ Rel B Y own st' a ∧ RepL Y vs ys ∧ cleans ys = true
  | xs, vs, X, st, K, R, h, hr => by
    suffices ∃ st' Y ys, K st' ys ∧ X.Le Y ∧ Y.w = X.w ∧ Rel B Y own st' a ∧ RepL Y vs ys ∧ cleans ys = true by
      obtain ⟨st', Y, ys, h1, _, h2⟩ := this
      exact ⟨st', Y, ys, h1, h2⟩
    induction xs generalizing vs X st K with
    | nil => cases hr; exact ⟨st, X, [], h, .refl X, rfl, R, .nil, rfl⟩
    | cons x xs ih =>
      cases hr with
      | cons hx hr =>
        simp only [melts] at h
        obtain ⟨st1, Y, y, h, le, ew, R1, hy, hc⟩ := melt_sound R h hx
        obtain ⟨st2, Z, ys, h, le2, ew2, R2, hys, hcs⟩ := @ih _ _ _ _ R1 h (hr.mono le)
        exact ⟨st2, Z, y :: ys, h, le.trans le2, ew2.trans ew, R2, .cons (hy.mono le2) hys, by simp [cleans, hc, hcs]⟩
theorem results_sound {cx : Cx} (C : COk P cx) {B : Base} {X : Lay} {own : Nat → Prop} {st : St} {a : Act} (R : Rel B X own st a) {fn : Func} {K : V → Om → Prop} (h : @results cx B.om st fn.results.toList ⟨K⟩) :
    ∃ v r Y om', (Go.results fn a.tmps).run P X.w = .ok v X.w ∧ K r om' ∧ Y.w = X.w ∧ Rep Y v r ∧ r.clean = true ∧ Kept B Y om' := by
  unfold results at h
  obtain ⟨xs, h, hxs, hruns⟩ := resAll_sound C R h
  obtain ⟨st', Y, ys, h, ew, R', hys, hcl⟩ : ∃ st' Y ys, K (told ys) st'.om ∧ Y.w = X.w ∧ Rel B Y own st' a ∧ RepL Y (fn.results.toList.map (resV P X.w a.tmps)) ys ∧ cleans ys = true := by
    split at h
    · obtain ⟨st', Y, ys, h, _, ew, R', hys, hcl, _, _⟩ := gives_sound R h hxs
      exact ⟨st', Y, ys, h, ew, R', hys, hcl⟩
    · exact melts_sound R h hxs
    · exact ⟨st, X, xs, h.2, rfl, R, hxs, h.1⟩
  have hk := R'.kept
  have hrun : (Go.results fn a.tmps).run P X.w = .ok (if h : (fn.results.map (resV P X.w a.tmps)).size = 1 then (fn.results.map (resV P X.w a.tmps))[0] else .tuple (fn.results.map (resV P X.w a.tmps))) X.w := by
    have hm := run_amapM_pure (P := P) (resF a.tmps) (resV P X.w a.tmps) X.w fn.results fun x hx => hruns x (Array.mem_toList_iff.2 hx)
    have e : Go.results fn a.tmps = (do let vs ← fn.results.mapM (resF a.tmps); pure (if h : vs.size = 1 then vs[0] else .tuple vs)) := by
      unfold Go.results
      congr 1
    rw [e, Sem.run_bind, hm]
    rfl
  refine ⟨_, _, Y, _, hrun, h, ew, ?_, ?_, hk⟩
  · have hl := hys.len
    simp only [List.length_map] at hl
    by_cases h1 : (fn.results.map (resV P X.w a.tmps)).size = 1
    · rw [dif_pos h1]
      obtain ⟨y, rfl⟩ := List.length_eq_one_iff.1 (show ys.length = 1 by rw [← hl]; simpa using h1)
      show Rep Y _ y
      have := hys.get 0 (by simp at hl; simp; omega) (by simp)
      simpa using this
    · rw [dif_neg h1]
      have et : told ys = .tup ys := by
        unfold told
        split
        · rename_i y
          exact absurd (by simpa using hl) h1
        · rfl
      rw [et]
      refine .tup _ _ (by simpa using hl) fun k k1 k2 => ?_
      have := hys.get k (by rw [List.length_map, hl]; exact k1) k1
      simpa using this
  · unfold told
    split
    · have := (cleans_iff _).1 hcl _ (List.mem_singleton.2 rfl); exact this
    · simpa [V.clean] using hcl
theorem Kept.less {B : Base} {X : Lay} {om om' : Om} (h : Kept B X om) (ho : OmKept om' om) : Kept B X om' :=
  ⟨fun id cs e => h.ob id cs (ho _ _ e), h.sb, h.fn, h.fb, h.fS, h.fS', fun id hid hlt => by
    cases e : om' id with
    | none => exact absurd e hid
    | some cs => exact h.fo id (by rw [ho _ _ e]; simp) hlt⟩
theorem Tells.less {f : FuncId} {X : Lay} {om : Om} {vs : Array Value} {Q Q' : V → Om → Prop} (hQ : ∀ r om', Q r om' → ∃ om'', OmKept om'' om' ∧ Q' r om'') (h : Tells P f X om vs Q) : Tells P f X om vs Q' := by
  refine Calls.mono h ?_
  rintro e w' ⟨v, Y, r, om', h1, h2, h3, h4, h5, h6⟩
  obtain ⟨om'', ho, hq⟩ := hQ _ _ h3
  exact ⟨v, Y, r, om'', h1, h2, hq, h4, h5, h6.less ho⟩
theorem Home.base {B B' : Base} {X : Lay} {own : Nat → Prop} {h : Nat} {H : Hm} (hm : Home B X own h H) (hs : B'.w.heap.size ≤ B.w.heap.size) : Home B' X own h H := by
  refine ⟨hm.L, hm.uni, ?_⟩
  rcases hm.lay with ⟨q0, q1, q2, q3, q4, q5, q6⟩ | q | ⟨q0, q1, ks, vs, es, ck, q2, q3, q4, q5⟩
  · exact .inl ⟨q0, q1, q2, q3, q4, Nat.le_trans hs q5, q6⟩
  · exact .inr (.inl q)
  · exact .inr (.inr ⟨q0, q1, ks, vs, es, ck, q2, q3, Nat.le_trans hs q4, q5⟩)
theorem Rel.rebase {B B' : Base} {X : Lay} {own : Nat → Prop} {st : St} {a : Act} (R : Rel B' X own st a) (h : Ext B B') : Rel ⟨B.w, B.S, B.om, B'.ds⟩ X own st a := by
  have hs := h.fn.size
  refine ⟨R.tm, R.rp, R.df, R.lv, fun g G hG => ?_, R.ij, R.dj, R.ob, R.sb, h.fn.trans R.fn, fun b hb e => (R.fb b (Nat.lt_of_lt_of_le hb hs) (none_of h.fo hb e)).trans (h.fb b hb e), fun b o hs => R.fS b o (h.fS b o hs), fun b o hS hb => h.fS' b o (R.fS' b o hS (Nat.lt_of_lt_of_le hb hs)) hb, fun id hid hb => h.fo id (R.fo id hid (Nat.lt_of_lt_of_le hb hs)) hb⟩
  exact (R.hm g G hG).base hs
theorem Rel.unmark {B : Base} {X : Lay} {own : Nat → Prop} {st : St} {a : Act} (R : Rel B X own st a) {D : Nat} {ds ds' : List Deferred} (h : X.w.heap[D]? = some (.deferred (some ds))) (hb : B.w.heap.size ≤ D) (hds : a.defers = ds') :
    Rel ⟨B.w, B.S, B.om, ds'⟩ { X with w := X.w.putObj D (.deferred none) } own st { a with defers := ds' } := by
  have hat : ∀ b o, ({ X with w := X.w.putObj D (.deferred none) } : Lay).at b o = X.at b o := fun b o => at_put (X := X) h (fun _ _ _ => by simp) (fun _ _ _ => by simp) b o
  have le : X.Le { X with w := X.w.putObj D (.deferred none) } := ⟨fun _ _ h => h, fun b o _ => hat b o, fun _ h => h, fun _ _ => .inl ⟨rfl, rfl, rfl⟩⟩
  have hcell : ∀ {b : Nat} {cur : Array Value} {ty : TypeId} {q : Nat × Nat}, X.w.heap[b]? = some (.cells cur ty q) → (X.w.putObj D (.deferred none)).heap[b]? = X.w.heap[b]? := fun hc =>
    World.putObj_heap_other fun e => by rw [e, h] at hc; cases hc
  refine ⟨R.tm, fun k g g' => (R.rp k g g').mono le, rfl, R.lv, fun g G hG => ?_, R.ij, R.dj, fun id cs hcs => ?_, fun b o hs => by show b < (X.w.putObj _ _).heap.size; rw [World.putObj_size]; exact R.sb b o hs, R.fn.putObj _ _, fun b hlt e => ?_, R.fS, R.fS', R.fo⟩
  · refine Home.base (B := B) ((R.hm g G hG).mono le rfl rfl rfl Iff.rfl (fun ho => ?_) fun o _ hs => hs) (Nat.le_refl _)
    rcases (R.hm g G hG).lay with ⟨_, _, _, _, ⟨cur, ty, c1, _⟩, _⟩ | ⟨c1, _⟩ | ⟨_, _, ks, vs, es, ck, _, c4, _⟩
    · exact hcell c1
    · exact absurd ho c1
    · exact World.putObj_heap_other fun e => by rw [e, h] at c4; cases c4
  · have ht := R.ob id cs hcs
    obtain ⟨cur, ty, c1, _⟩ := ht.cells
    exact ht.mono le (hcell c1) ht.S
  · show (X.w.putObj _ _).heap[b]? = _
    have hlt' : b < B.w.heap.size := hlt
    rw [World.putObj_heap_other (by omega)]
    exact R.fb b hlt e
theorem marks_sound {cx : Cx} (C : COk P cx) (fn : Func) {w0 : World} {S0 : Nat → Nat → Prop} {om0 : Om} {Q : V → Om → Prop} : ∀ (ms : List Nat) (st : St) (X : Lay) (own : Nat → Prop) (a : Act) {ds : List Deferred},
    a.defers = ms.map (fun D => { target := .collected D, args := #[] }) → Rel ⟨w0, S0, om0, ds⟩ X own st a → ms.Nodup → (∀ D ∈ ms, w0.heap.size ≤ D ∧ st.om D = none ∧ X.w.heap[D]? = some (.deferred (some []))) → @results cx om0 st fn.results.toList ⟨Q⟩ →
    LeavesInM Fence.wide 0 P fn a.tmps (fun e w' => ∃ v' Y r om', e = Ending.returned v' ∧ Y.w = w' ∧ Q r om' ∧ Rep Y v' r ∧ r.clean = true ∧ Kept ⟨w0, S0, om0, []⟩ Y om') a.defers .returning X.w
  | [], st, X, own, a, ds, hd, R, _, _, hK => by
    rw [hd]
    obtain ⟨v, r, Y, om', h1, h2, h3, h4, h5, h6⟩ := results_sound C R hK
    exact ⟨v, h1, v, Y, r, om', rfl, h3, h2, h4, h5, ⟨h6.ob, h6.sb, h6.fn, h6.fb, h6.fS, h6.fS', h6.fo⟩⟩
  | D :: ms, st, X, own, a, ds, hd, R, hnd, hms, hK => by
    rw [hd]
    obtain ⟨q1, q2, q3⟩ := hms D (by simp)
    have hnd' := List.nodup_cons.1 hnd
    refine ⟨by simp, .inl ⟨D, _, rfl, run_takeDeferred q3, ?_⟩⟩
    have R1 := Rel.unmark (a := { a with defers := ms.map (fun D => { target := .collected D, args := #[] }) }) (ds' := ms.map (fun D => { target := .collected D, args := #[] })) (B := ⟨w0, S0, om0, ms.map (fun D => { target := .collected D, args := #[] })⟩)
      ⟨R.tm, R.rp, rfl, R.lv, fun g G hG => (R.hm g G hG).base (Nat.le_refl _), R.ij, R.dj, R.ob, R.sb, R.fn, R.fb, R.fS, R.fS', R.fo⟩ q3 q1 rfl
    refine marks_sound C fn ms st _ own { a with defers := ms.map (fun D => { target := .collected D, args := #[] }) } rfl R1 hnd'.2 (fun E hE => ?_) hK
    obtain ⟨p1, p2, p3⟩ := hms E (by simp [hE])
    refine ⟨p1, p2, ?_⟩
    show (X.w.putObj D _).heap[E]? = _
    rw [World.putObj_heap_other fun e => hnd'.1 (by rw [← e]; exact hE)]
    exact p3
theorem body_tells {cx : Cx} (C : COk P cx) (hx : P.follows .mixedOrders = true) {f : FuncId} {fn : Func} {code : Code} (hf : P.funcs[f]? = some fn) (hb : fn.body = some code) (hg : okCode cx code = true) {X : Lay} {om : Om} {args : List V} {vs : List Value}
    (Y : ∀ l c, cx.y = some (l, c) → YOk P ⟨X.w, X.S, om, []⟩ l c) (G : Good X om) (hr : RepL X vs args) (hcl : cleans args = true) {Q : V → Om → Prop} (hbody : body cx fn code args om Q) : Tells P f X om vs.toArray Q := by
  unfold body at hbody
  refine callsIn_wide.1 (callsIn_of_wp_marks (F := Fence.wide) (n := 0) hf hb trivial ?_)
  have R0 : Rel ⟨X.w, X.S, om, []⟩ ({ X with live := fun _ => False }) (fun _ => False) ⟨args ++ List.replicate (fn.ntmps - args.length) .u, [], om⟩
      { tmps := vs.toArray ++ Array.replicate (fn.ntmps - vs.toArray.size) undef, defers := [] } := by
    have hl := hr.len
    refine ⟨by simp [hl], fun k h h' => ?_, rfl, fun h => by simp [Mem.get], fun h H hH => by simp [Mem.get] at hH, fun h h' hl => by exact hl.elim, fun h hl => by exact hl.elim, fun id cs hcs => ?_, G.sb, .refl _, fun b _ _ => rfl, fun b o h => h, fun b o h _ => h, fun id h _ => h⟩
    · by_cases e : k < args.length
      · have e' : k < vs.length := by omega
        have := hr.get k e' e
        simp only [List.getElem_append_left e]
        rw [Array.getElem_append_left (by simpa using e')]
        simp only [List.getElem_toArray]
        exact Rep.move (X := X) (Y := { X with live := fun _ => False }) (fun _ _ h => h) (fun _ _ _ => rfl) this ((cleans_iff _).1 hcl _ (List.getElem_mem e))
      · simp only [List.getElem_append_right (Nat.le_of_not_lt e), List.getElem_replicate]
        exact .u _
    · have ht := G.ob id cs hcs
      obtain ⟨cur, ty, c1, c2, c3, c4⟩ := ht.cells
      exact ⟨ht.cl, ⟨cur, ty, c1, c2, c3, fun k hk hk' => ⟨Rep.move (X := X) (Y := { X with live := fun _ => False }) (fun _ _ h => h) (fun _ _ _ => rfl) (c4 k hk hk').1 ((cleans_iff _).1 ht.cl _ (List.getElem_mem hk)), (c4 k hk hk').2⟩⟩, ht.S⟩
  refine wpIn_mono (wpc_sound C hx code hg Fence.wide 0 (.inl rfl) (.inl rfl) _ Y _ _ ({ X with live := fun _ => False }) _ _ hbody R0) ?_
  have fin : ∀ a w, AfterX ⟨X.w, X.S, om, []⟩ (fun st => @results cx om st fn.results.toList ⟨Q⟩) a w →
      LeavesInM Fence.wide 0 P fn a.tmps (fun e w' => ∃ v' Y r om', e = Ending.returned v' ∧ Y.w = w' ∧ Q r om' ∧ Rep Y v' r ∧ r.clean = true ∧ Kept ⟨X.w, X.S, om, []⟩ Y om') a.defers .returning w := by
    rintro a w ⟨B', st, X', own, hE, hK, rfl, R⟩
    obtain ⟨ms, hds, hnd, hms⟩ := hE.mks
    rw [List.append_nil] at hds
    have R1 := R.rebase hE
    refine marks_sound C fn ms st X' own a ?_ R1 hnd (fun D hD => ?_) hK
    · rw [R.df, hds]
    · obtain ⟨q1, q2, q3, q4⟩ := hms D hD
      refine ⟨q1, none_of (fun id hid hb => R.fo id hid hb) q2 q3, (R.fb D q2 q3).trans q4⟩
  rintro e a w hq
  cases e with
  | normal => exact fin a w hq
  | exit id =>
    obtain ⟨_, _, _, _, _, hK, _⟩ := hq
    exact hK.elim
  | goto l => obtain ⟨_, _, _, _, _, hK, _⟩ := hq; exact hK.elim
  | ret => exact fin a w hq
  | panic ch => exact hq.elim
  | outgrown => exact hq.elim
theorem run_of {f : FuncId} {fn : Func} {code : Code} (hf : P.funcs[f]? = some fn) (hb : fn.body = some code) (hn : (fn.name == "runtime.NumGoroutine") = false) (args : Array Value) (w : World) : (callFunc f args).run P w = .ok (.enter f args) w := by
  have hn' : ¬ fn.name = "runtime.NumGoroutine" := by simpa using hn
  simp [callFunc, hf, hn', hb]
theorem RepL.wfs {X : Lay} {vs : List Value} {args : List V} (hr : RepL X vs args) : wfs args := wfs_of_get fun k hk => (hr.get k (by rw [hr.len]; exact hk) hk).wf
theorem ok_of_body {cx : Cx} (C : COk P cx) (hx : P.follows .mixedOrders = true) {f : FuncId} {fn : Func} {code : Code} (hf : P.funcs[f]? = some fn) (hb : fn.body = some code) (hn : (fn.name == "runtime.NumGoroutine") = false) (hg : okCode cx code = true) {c : Cn} (hm : Mono c)
    (h : ∀ args om (Q : V → Om → Prop), wfs args → @c args om ⟨Q⟩ → body cx fn code args om fun v om' => ∃ om'', OmKept om'' om' ∧ Q v om'') (hy : cx.y = none := by rfl) : Ok P f c where
  mono := hm
  run := run_of hf hb hn
  tells := fun _ om args _ Q G hr hcl hc => (body_tells C hx hf hb hg (fun l c e => by rw [hy] at e; cases e) G hr hcl (h args om Q hr.wfs hc)).less fun _ _ h => h
theorem ok_of_body1 {cx : Cx} (C : COk P cx) (hx : P.follows .mixedOrders = true) {f : FuncId} {fn : Func} {code : Code} (hf : P.funcs[f]? = some fn) (hb : fn.body = some code) (hn : (fn.name == "runtime.NumGoroutine") = false) (hg : okCode cx code = true) {c : Cn} (hm : Mono c)
    (h : ∀ args om (Q : V → Om → Prop), wfs args → @c args om ⟨Q⟩ → body cx fn code args om Q) (hy : cx.y = none := by rfl) : Ok P f c :=
  ok_of_body C hx hf hb hn hg hm (fun args om Q hw hc => h args om _ hw (hm args om Q _ (fun r om' hq => ⟨om', .refl _, hq⟩) hc)) hy
end
end Go.Proofs.YteomkgcepiecjaaGreat.I
/- How a row of the type table is shown. -/
namespace Go.Proofs.YteomkgcepiecjaaGreat.I
open Go
def zs (n : Nat) : List Nat := List.replicate n 0
def zOf : Value → V
  | .agg vs => .agg (vs.toList.map V.ofVal)
  | v => V.ofVal v
def goodZ : Value → Bool
  | .agg vs => vs.toList.all fun v => goodV v && v.oneCell'
  | v => goodV v && v.oneCell'
theorem rep_zOf (X : Lay) {v : Value} (h : goodZ v = true) : Rep X v (zOf v) := by
  cases v with
  | agg vs =>
    simp only [goodZ, List.all_eq_true, Bool.and_eq_true] at h
    refine .agg _ _ (by simp) (fun u hu => (h u (Array.mem_toList_iff.2 hu)).2) fun k k1 k2 => ?_
    simp only [List.getElem_map, Array.getElem_toList]
    exact rep_ofVal X (h _ (Array.mem_toList_iff.2 (Array.getElem_mem k2))).1
  | _ => exact rep_ofVal X (by simp only [goodZ, Bool.and_eq_true] at h; exact h.1)
def notIf : TypeDesc → Bool
  | .interface _ => false
  | _ => true
def okZ (inf : TypeInfo) (z : Value) (i : TI) : Bool :=
  goodZ z && z.cells.size == i.size && z.cells.toList.all (·.oneCell') && i.zero.clean && i.zero.fits i.size i.isAgg && (i.isAgg || i.size == 1) && inf.size == i.size && inf.bytes == i.bytes
theorem tok {P : Program} {t : TypeId} {inf : TypeInfo} {z : Value} {d : TypeDesc} {i : TI} (h : P.info? t = some inf) (hz : inf.zero = some z) (hu : P.underlying t = some d) (hf : i.k.fits P d) (e : i.zero = zOf z) (hc : i.cn = notIf d) (hk : okZ inf z i = true) : TOk P t i := by
  simp only [okZ, Bool.and_eq_true, beq_iff_eq] at hk
  obtain ⟨⟨⟨⟨⟨⟨⟨h1, h2⟩, h3⟩, h4⟩, h5⟩, h6⟩, h7⟩, h8⟩ := hk
  refine ⟨⟨inf, z, d, h, h7, h8, hz, hu, hf, fun X => by rw [e]; exact rep_zOf X h1, h2, fun v hv => List.all_eq_true.1 h3 v (Array.mem_toList_iff.2 hv)⟩, h4, h5, fun ha => ?_, fun hcn => ?_⟩
  · rw [ha] at h6; simpa using h6
  · rw [hc] at hcn
    unfold Program.concrete
    rw [hu]
    cases d <;> simp_all [notIf]
def fldOk (P : Program) : List Field → Prop
  | [] => True
  | f :: l => (∃ inf, P.info? f.type = some inf ∧ inf.size ≠ 0) ∧ fldOk P l
theorem fldOk.all {P : Program} {l : List Field} (h : fldOk P l) : ∀ f ∈ l, ∃ inf, P.info? f.type = some inf ∧ inf.size ≠ 0 := by
  induction l with
  | nil => intro f hf; cases hf
  | cons g l ih =>
    intro f hf
    rcases List.mem_cons.1 hf with rfl | hf
    · exact h.1
    · exact ih h.2 f hf
theorem fitS {P : Program} {F : Array Field} {fs : List (Nat × TypeId)} (e : fs = F.toList.map (fun f => (f.offset, f.type))) (h : fldOk P F.toList) : (TK.struct fs).fits P (.struct F) :=
  ⟨F, rfl, e, fun f hf => h.all f (Array.mem_toList_iff.2 hf)⟩
abbrev Table := List (TypeId × TI)
def Table.get : Table → TypeId → Option TI
  | [], _ => none
  | (k, i) :: l, t => if t = k then some i else Table.get l t
inductive Table.Ok (P : Program) : Table → Prop
  | nil : Table.Ok P []
  | cons {t : TypeId} {i : TI} {l : Table} : TOk P t i → Table.Ok P l → Table.Ok P ((t, i) :: l)
theorem Table.Ok.get {P : Program} {l : Table} (h : Table.Ok P l) (t : TypeId) (i : TI) (e : l.get t = some i) : TOk P t i := by
  induction h with
  | nil => simp [Table.get] at e
  | cons hi _ ih =>
    simp only [Table.get] at e
    split at e
    · rename_i ht; subst ht; injection e with e; subst e; exact hi
    · exact ih e
inductive Kept' (P : Program) : List (FuncId × Cn) → Prop
  | nil : Kept' P []
  | cons {f : FuncId} {c : Cn} {l : List (FuncId × Cn)} : Ok P f c → Kept' P l → Kept' P ((f, c) :: l)
  | consX {f : FuncId} {c : Cn} {l : List (FuncId × Cn)} : OkX P f c → Kept' P l → Kept' P ((f, c) :: l)
inductive KeptR (P : Program) : List (FuncId × (Cn → Cn)) → Prop
  | nil : KeptR P []
  | cons {f : FuncId} {c : Cn → Cn} {l : List (FuncId × (Cn → Cn))} : OkR P f c → KeptR P l → KeptR P ((f, c) :: l)
theorem KeptR.get {P : Program} {l : List (FuncId × (Cn → Cn))} (h : KeptR P l) (f : FuncId) (c : Cn → Cn) (e : lkR l f = some c) : OkR P f c := by
  induction h with
  | nil => simp [lkR] at e
  | cons hi _ ih =>
    simp only [lkR] at e
    split at e
    · rename_i ht; subst ht; injection e with e; subst e; exact hi
    · exact ih e
theorem Kept'.get {P : Program} {l : List (FuncId × Cn)} (h : Kept' P l) (f : FuncId) (c : Cn) (e : lk l f = some c) : OkE P f c := by
  induction h with
  | nil => simp [lk] at e
  | cons hi _ ih =>
    simp only [lk] at e
    split at e
    · rename_i ht; subst ht; injection e with e; subst e; exact .inl hi
    · exact ih e
  | consX hi _ ih =>
    simp only [lk] at e
    split at e
    · rename_i ht; subst ht; injection e with e; subst e; exact .inr hi
    · exact ih e
end Go.Proofs.YteomkgcepiecjaaGreat.I
/- Which types' values are compared cell by cell. -/
namespace Go.Proofs.YteomkgcepiecjaaGreat.I
open Go
section
variable (P : Program)
def kindsF (g : TypeId → Option (List CK)) : List Field → Nat → Option (List CK)
  | [], _ => some []
  | f :: fs, off =>
    match g f.type with
    | some ks => if f.offset = off ∧ P.cellsOf f.type = ks.length then (kindsF g fs (off + ks.length)).map (ks ++ ·) else none
    | none => none
def kindsOf : Nat → TypeId → Option (List CK)
  | 0, _ => none
  | d + 1, t =>
    match P.underlying t with
    | some .bool => some [.b]
    | some (.int q) => some [.i q]
    | some (.array n e) =>
      match kindsOf d e with
      | some ks => if P.cellsOf e = ks.length ∧ P.cellsOf t = n * ks.length then some (List.replicate n ks).flatten else none
      | none => none
    | some (.struct fs) =>
      match kindsF P (kindsOf d) fs.toList 0 with
      | some ks => if fs.all (·.name != "_") = true ∧ P.cellsOf t = ks.length then some ks else none
      | none => none
    | _ => none
end
theorem okL_len : ∀ {ks : List CK} {ls : List Lit}, okL ks ls = true → ls.length = ks.length
  | [], [], _ => rfl
  | [], _ :: _, h => by simp [okL] at h
  | k :: _, [], h => by simp [okL] at h
  | .b :: ks, l :: ls, h => by cases l <;> simp [okL] at h; simp [okL_len h]
  | .i k :: ks, l :: ls, h => by cases l <;> simp [okL] at h; simp [okL_len h.2]
theorem okL_append : ∀ {ks js : List CK} {ls : List Lit}, okL (ks ++ js) ls = true → okL ks (ls.take ks.length) = true ∧ okL js (ls.drop ks.length) = true
  | [], js, ls, h => ⟨by simp [okL], by simpa using h⟩
  | k :: ks, js, [], h => by simp [okL] at h
  | .b :: ks, js, l :: ls, h => by
    cases l <;> simp [okL] at h
    simpa [okL] using okL_append h
  | .i k :: ks, js, l :: ls, h => by
    cases l <;> simp [okL] at h
    obtain ⟨⟨rfl, hw⟩, h⟩ := h
    simpa [okL, hw] using okL_append h
theorem okL_chunk {k : List CK} : ∀ {n i : Nat} {ls : List Lit}, i < n → okL (List.replicate n k).flatten ls = true → okL k ((ls.drop (i * k.length)).take k.length) = true
  | 0, _, _, h, _ => by omega
  | n + 1, i, ls, hi, h => by
    rw [List.replicate_succ, List.flatten_cons] at h
    obtain ⟨h1, h2⟩ := okL_append h
    cases i with
    | zero => simpa using h1
    | succ i =>
      have := okL_chunk (i := i) (by omega) h2
      rw [List.drop_drop] at this
      rwa [show (i + 1) * k.length = k.length + i * k.length by rw [Nat.add_mul]; omega]
theorem mapM_some {α β : Type} {f : α → Option β} {g : α → β} : ∀ {l : List α}, (∀ x ∈ l, f x = some (g x)) → l.mapM f = some (l.map g)
  | [], _ => rfl
  | x :: l, h => by
    rw [List.mapM_cons, h x List.mem_cons_self, mapM_some fun y hy => h y (List.mem_cons_of_mem _ hy)]; rfl
theorem chunks {α : Type} (L : Nat) (ls : List α) : ∀ n : Nat, n * L ≤ ls.length → ((List.range n).map fun i => (ls.drop (i * L)).take L).flatten = ls.take (n * L)
  | 0, _ => by simp
  | n + 1, h => by
    rw [Nat.add_mul, Nat.one_mul] at h
    rw [List.range_succ, List.map_append, List.flatten_append, chunks L ls n (by omega), Nat.add_mul, Nat.one_mul, List.take_add]
    simp
theorem fields_lits {P : Program} {d : Nat} {g : TypeId → Option (List CK)} (hg : ∀ {t ks ls}, g t = some ks → okL ks ls = true → P.keyLits d t (ls.map Lit.value) = some ls) (all : List Lit) :
    ∀ {fs : List Field} {off : Nat} {ks : List CK}, kindsF P g fs off = some ks → okL ks (all.drop off) = true →
      ∃ LL, fs.mapM (fun f => P.keyLits d f.type (((all.map Lit.value).drop f.offset).take (P.cellsOf f.type))) = some LL ∧ LL.flatten = all.drop off
  | [], off, ks, h, ho => by
    simp only [kindsF, Option.some.injEq] at h
    subst h
    exact ⟨[], rfl, (List.eq_nil_of_length_eq_zero (okL_len ho)).symm⟩
  | f :: fs, off, ks, h, ho => by
    simp only [kindsF] at h
    split at h
    · rename_i k1 hk
      split at h
      · rename_i hc
        obtain ⟨h1, h2⟩ := hc
        cases hr : kindsF P g fs (off + k1.length) with
        | none => simp [hr] at h
        | some k2 =>
          simp only [hr, Option.map_some, Option.some.injEq] at h
          subst h
          obtain ⟨o1, o2⟩ := okL_append ho
          rw [List.drop_drop] at o2
          obtain ⟨LL, e1, e2⟩ := fields_lits hg all hr o2
          refine ⟨(all.drop off).take k1.length :: LL, ?_, ?_⟩
          · have e : ((all.map Lit.value).drop f.offset).take (P.cellsOf f.type) = ((all.drop off).take k1.length).map Lit.value := by
              rw [h1, h2, List.map_take, List.map_drop]
            rw [List.mapM_cons, e, hg hk o1, e1]; rfl
          · rw [List.flatten_cons, e2, ← List.drop_drop, List.take_append_drop]
      · simp at h
    · simp at h
theorem kinds_lits {P : Program} : ∀ {d : Nat} {t : TypeId} {ks : List CK} {ls : List Lit}, kindsOf P d t = some ks → okL ks ls = true → P.keyLits d t (ls.map Lit.value) = some ls
  | 0, _, _, _, h, _ => by simp [kindsOf] at h
  | d + 1, t, ks, ls, h, ho => by
    have hl := okL_len ho
    unfold kindsOf at h
    unfold Program.keyLits
    cases hu : P.underlying t with
    | none => simp [hu] at h
    | some de =>
      simp only [hu] at h
      cases de <;> simp only [reduceCtorEq, Option.some.injEq] at h
      case bool =>
        subst h
        match ls, ho with
        | [.bool b], _ => rfl
      case int q =>
        subst h
        match ls, ho with
        | [.int j n], ho =>
          simp only [okL, Bool.and_true, Bool.and_eq_true, decide_eq_true_eq] at ho
          obtain ⟨rfl, hw⟩ := ho
          simp [Lit.value, hw]
      case array n e =>
        split at h
        · rename_i ke hke
          split at h
          · rename_i hc
            obtain ⟨c1, c2⟩ := hc
            injection h with h
            subst h
            have hL : ls.length = n * ke.length := by rw [hl]; simp
            have hm : (List.range n).mapM (fun i => P.keyLits d e (((ls.map Lit.value).drop (i * P.cellsOf e)).take (P.cellsOf e))) = some ((List.range n).map fun i => (ls.drop (i * ke.length)).take ke.length) := by
              refine mapM_some fun i hi => ?_
              have hi' : i < n := by simpa using hi
              rw [c1, ← List.map_drop, ← List.map_take]
              exact kinds_lits hke (okL_chunk hi' ho)
            simp only [List.length_map, hL, c2, if_true, hm, Option.map_some]
            rw [chunks _ _ _ (by omega), ← hL, List.take_length]
          · simp at h
        · simp at h
      case struct fs =>
        split at h
        · rename_i ke hke
          split at h
          · rename_i hc
            obtain ⟨c1, c2⟩ := hc
            injection h with h
            subst h
            obtain ⟨LL, e1, e2⟩ := fields_lits (d := d) (fun h1 h2 => kinds_lits h1 h2) ls hke (by simpa using ho)
            simp only [List.length_map, hl, c2, c1, and_self, if_true, e1, Option.map_some, e2, List.drop_zero]
          · simp at h
        · simp at h
theorem plainEq_kinds {P : Program} {t : TypeId} {ks : List CK} {m D : Nat} (hm : m ≤ 10000) (hk : P.keyTypeAt m t = true) (hg : P.eqGuardType P.depth t = false) (hD : kindsOf P D t = some ks)
    (hf : (match P.underlying t with | some (.struct _) => P.cellsOf t == ks.length | some (.array _ _) => P.cellsOf t == ks.length | _ => false) = true) : PlainEq P t ks where
  guard := hg
  run := fun w as bs h1 h2 => by
    have fo : ∀ ls : List Lit, okL ks ls = true → (Value.agg (mkA ls)).formed P t = true := fun ls h => by
      have hl := okL_len h
      cases hu : P.underlying t with
      | none => simp [hu] at hf
      | some de =>
        simp only [hu] at hf
        cases de <;> simp only [Bool.false_eq_true, beq_iff_eq] at hf <;> simp [Value.formed, hu, mkA, hl, hf]
    obtain ⟨r, hr, hi⟩ := run_equalIn_deep (10000 - m) m t hk w D D (.agg (mkA as)) (.agg (mkA bs)) _ _ (fo _ h1) (fo _ h2) (by simpa [mkA, Value.cells] using kinds_lits hD h1) (by simpa [mkA, Value.cells] using kinds_lits hD h2)
    rw [show 10000 - m + m = 10000 by omega] at hr
    exact ⟨r, hr, hi⟩
  chk := fun w em as h => by
    have fo : (Value.agg (mkA as)).formed P t = true := by
      have hl := okL_len h
      cases hu : P.underlying t with
      | none => simp [hu] at hf
      | some de =>
        simp only [hu] at hf
        cases de <;> simp only [Bool.false_eq_true, beq_iff_eq] at hf <;> simp [Value.formed, hu, mkA, hl, hf]
    have := run_checkKey_deep em (10000 - m) m t hk w D (.agg (mkA as)) _ fo (by simpa [mkA, Value.cells] using kinds_lits hD h)
    rwa [show 10000 - m + m = 10000 by omega] at this
  wide := by
    cases hu : P.underlying t with
    | none => simp [hu] at hf
    | some de =>
      simp only [hu] at hf
      cases de <;> simp only [Bool.false_eq_true, beq_iff_eq] at hf <;> rfl
inductive EqRows (P : Program) : List (TypeId × List CK) → Prop
  | nil : EqRows P []
  | cons {t : TypeId} {ks : List CK} {l : List (TypeId × List CK)} : PlainEq P t ks → EqRows P l → EqRows P ((t, ks) :: l)
def eqGet : List (TypeId × List CK) → TypeId → Option (List CK)
  | [], _ => none
  | (u, ks) :: l, t => if t = u then some ks else eqGet l t
theorem EqRows.get {P : Program} {l : List (TypeId × List CK)} (h : EqRows P l) (t : TypeId) (ks : List CK) (e : eqGet l t = some ks) : PlainEq P t ks := by
  induction h with
  | nil => simp [eqGet] at e
  | cons hi _ ih =>
    simp only [eqGet] at e
    split at e
    · rename_i ht; subst ht; injection e with e; subst e; exact hi
    · exact ih e
end Go.Proofs.YteomkgcepiecjaaGreat.I
