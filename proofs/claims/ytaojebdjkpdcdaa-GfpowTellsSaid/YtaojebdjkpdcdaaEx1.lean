/- Every operation that is no call. -/
import Derived.Test.YtaojebdjkpdcdaaGive
namespace Go.Proofs.Ytaojebdjkpdcdaa.I
open Go
set_option linter.unusedVariables false
set_option linter.unusedSimpArgs false

section
variable {P : Program}

theorem put_none (a : Act) (v : Value) : a.put none v = a := rfl

theorem splice_len {cs vs : List V} {off : Nat} (h : off + vs.length ≤ cs.length) : (splice cs off vs).length = cs.length := by
  simp only [splice, List.length_append, List.length_take, List.length_drop]; omega

theorem flat_append (xs ys : List V) : flat (xs ++ ys) = flat xs ++ flat ys := by simp [flat]

theorem flat_set {xs : List V} {es : Nat} (hu : ∀ x ∈ xs, x.cells.length = es) (j : Nat) (hj : j < xs.length) (y : V) (hy : y.cells.length = es) :
    flat (xs.set j y) = splice (flat xs) (j * es) y.cells := by
  have l1 : (flat (xs.take j)).length = j * es := by
    rw [flat_uniform (es := es) fun x hx => hu x (List.mem_of_mem_take hx), List.length_take, Nat.min_eq_left (by omega)]
  have e2 : flat xs = flat (xs.take j) ++ (xs[j].cells ++ flat (xs.drop (j + 1))) := by
    have e1 : flat xs = flat (xs.take j) ++ flat (xs.drop j) := by rw [← flat_append, List.take_append_drop]
    rw [e1, List.drop_eq_getElem_cons hj]; rfl
  have e3 : flat (xs.set j y) = flat (xs.take j) ++ (y.cells ++ flat (xs.drop (j + 1))) := by
    rw [List.set_eq_take_append_cons_drop, if_pos hj, flat_append]; simp [flat]
  have e4 := hu _ (List.getElem_mem hj)
  have e5 : (flat (xs.take j) ++ (xs[j].cells ++ flat (xs.drop (j + 1)))).drop (j * es + es) = flat (xs.drop (j + 1)) := by
    rw [← List.append_assoc, List.drop_left' (by simp [l1, e4])]
  rw [e3, e2, splice, List.take_left' l1, hy, e5, List.append_assoc]

theorem splice_splice (cs ys : List V) (p off n : Nat) (hn : p + n ≤ cs.length) (ho : off + ys.length ≤ n) :
    splice cs p (splice ((cs.drop p).take n) off ys) = splice cs (p + off) ys := by
  have hl : (splice ((cs.drop p).take n) off ys).length = n := by
    rw [splice_len (by simp; omega)]; simp; omega
  have e : ∀ (l : List V) (m : Nat), n ≤ l.length → m ≤ n → (l.take n).drop m ++ l.drop n = l.drop m := fun l m hl hm => by
    rw [← List.drop_append_of_le_length (by simp; omega), List.take_append_drop]
  have e1 := e (cs.drop p) (off + ys.length) (by simp; omega) ho
  rw [List.drop_drop, List.drop_drop] at e1
  have e2 : splice cs p (splice ((cs.drop p).take n) off ys) = cs.take p ++ splice ((cs.drop p).take n) off ys ++ cs.drop (p + n) := by
    conv => lhs; unfold splice
    rw [hl]
  rw [e2]
  unfold splice
  rw [List.take_take, Nat.min_eq_left (by omega), List.take_add, ← Nat.add_assoc] at *
  simp only [List.append_assoc]
  rw [e1, Nat.add_assoc]

theorem store_sound {cx : Cx} (C : COk P cx) {B : Base} {X : Lay} {own : Nat → Prop} {st : St} {a : Act} (R : Rel B X own st a) {t : TypeId} {x y : V} {K : St → Prop} {v w : Value}
    (h : @store cx st t x y ⟨K⟩) (hx : Rep X v x) (hy : Rep X w y) :
    ∃ st' X' own', K st' ∧ (Instr.storeAt t v w).run P X.w = .ok () X'.w ∧ Rel B X' own' st' a := by
  unfold store at h
  replace h := ti_inv h; obtain ⟨i, hi, hf, h⟩ := h
  have hT := C.T _ _ hi
  obtain ⟨hw, hw1⟩ := rep_cells hy hf
  have hn : w.cells.size = i.size := by have := hw.len; rw [(fits_spec hf).2] at this; simpa using this
  have run : ∀ (g o : Nat) (cur : Array Value) (ty : TypeId), X.w.heap[g]? = some (.cells cur ty (0, 0)) → o + i.size ≤ cur.size →
      (Instr.storeAt t (.pointer (some ⟨g, o, none⟩)) w).run P X.w = .ok () (X.w.setRow g (cur.toList.take o ++ w.cells.toList ++ cur.toList.drop (o + w.cells.toList.length)).toArray) := by
    intro g o cur ty hg hl
    have := run_storeCells_at P g o ty w.cells.toList 0 cur X.w hg (by simp; omega) (fun u hu => hw1 u (Array.mem_toList_iff.1 hu))
    simp only [Nat.add_zero] at this
    simp [Instr.storeAt, Instr.sureAddr, storeVar, hT.size, hn, this]
  split at h <;> first | exact h.elim | skip
  · rename_i hh m es j off
    replace h := so_inv h; obtain ⟨H, hH, ⟨hfz, h1, h2, h3, h4⟩, h⟩ := h
    have hm := R.hm _ _ hH
    cases hx with
    | ref _ _ _ _ _ b o hl hm' hv =>
      obtain ⟨rfl, rfl⟩ := hv (by rw [hm.L]; exact h1.symm)
      subst h3
      have hj : j < H.els.length := by omega
      have hun := uni_len hm.uni
      rcases hm.lay with ⟨ho, q0, q1, q2, ⟨cur, ty, q3, q4, q5, q6⟩, q7, q8⟩ | ⟨_, _, q, _⟩
      case inr => rcases q with q | q
                  · rw [hfz] at q; cases q
                  · rw [q] at hj; simp at hj
      have hes : off + i.size ≤ H.es ∧ (elemSet H j off y).els.length = H.els.length ∧ (elemSet H j off y).es = H.es ∧ uni (elemSet H j off y).es (elemSet H j off y).ag (elemSet H j off y).els = true ∧
          flat (elemSet H j off y).els = splice (flat H.els) (j * H.es + off) y.cells := by
        unfold canSet at h4
        unfold elemSet
        have ej : H.els.getD j .u = H.els[j] := by simp [List.getD, hj]
        have hel := uni_iff.1 hm.uni _ (List.getElem_mem hj)
        have hel2 := fits_spec hel
        cases hag : H.ag with
        | true =>
          simp only [hag] at h4 ⊢
          rw [hasN_iff, ej, hel2.2] at h4
          rw [ej]
          have hl : (V.agg (splice H.els[j].cells off y.cells)).cells.length = H.es := by
            show (splice H.els[j].cells off y.cells).length = H.es
            rw [splice_len (by rw [hel2.2, (fits_spec hf).2]; exact h4), hel2.2]
          refine ⟨h4, by simp, trivial, ?_, ?_⟩
          · refine uni_iff.2 fun z hz => ?_
            rcases List.mem_or_eq_of_mem_set hz with hz | rfl
            · have := uni_iff.1 hm.uni z hz; rwa [hag] at this
            · simpa [V.fits, V.cells] using hl
          · rw [flat_set hun j hj _ hl]
            show splice (flat H.els) (j * H.es) (splice H.els[j].cells off y.cells) = _
            have := flat_elem hun j hj
            rw [← this]
            exact splice_splice _ _ _ _ _ (by rw [flat_uniform hun]; have := Nat.mul_le_mul_right H.es (show j + 1 ≤ H.els.length by omega); rw [Nat.succ_mul] at this; exact this) (by rw [(fits_spec hf).2]; exact h4)
        | false =>
          simp only [hag, Bool.and_eq_true, Bool.not_eq_true', beq_iff_eq] at h4 ⊢
          obtain ⟨ha, rfl⟩ := h4
          rw [hag] at hel
          have e1 : H.es = 1 := by have := fits_spec hel; rw [cells_one this.1] at this; simpa using this.2.symm
          have e2 := hT.sz ha
          rw [ha, e2] at hf
          refine ⟨by omega, by simp, trivial, ?_, ?_⟩
          · refine uni_iff.2 fun z hz => ?_
            rcases List.mem_or_eq_of_mem_set hz with hz | rfl
            · have := uni_iff.1 hm.uni z hz; rwa [hag] at this
            · rw [e1]; exact hf
          · rw [flat_set hun j hj _ (by rw [(fits_spec hf).2, e1]), Nat.add_zero]
      obtain ⟨g1, g2, g3, g4, g5⟩ := hes
      have hlen : j * H.es + off + i.size ≤ (flat H.els).length := by
        rw [flat_uniform hun]; have := Nat.mul_le_mul_right H.es (show j + 1 ≤ H.els.length by omega); rw [Nat.succ_mul] at this; omega
      obtain ⟨cur', f1, f2, f3⟩ := set_cells (by omega) q6 hw (fun u hu => hw1 u (Array.mem_toList_iff.1 hu)) (j * H.es + off) (by rw [(fits_spec hf).2]; exact hlen)
      refine ⟨_, _, own, h, ?_, R.write hH ho hfz g2 g3 g4 cur cur' ty q3 f2 ?_⟩
      · rw [q0, Nat.zero_add, run _ _ cur ty q3 (by omega), f1]
      · rw [g5]; exact f3
  · rename_i id off
    replace h := so_inv h; obtain ⟨cs, hcs, hN, h⟩ := h
    rw [hasN_iff] at hN
    cases hx with
    | obj _ _ =>
      obtain ⟨st1, Y, y', h, le, ew, R1, hy', hcl, hfy, e1, e2⟩ := give_sound R h hy
      have hf' := hfy _ _ hf
      obtain ⟨hw', _⟩ := rep_cells hy' hf'
      rw [← e2] at hcs
      have ht := R1.ob _ _ hcs
      obtain ⟨cur, ty, q3, q4, q5, q6⟩ := ht.cells
      have hN' : off + y'.cells.length ≤ cs.length := by rw [(fits_spec hf').2]; exact hN
      obtain ⟨cur', f1, f2, f3⟩ := set_cells (by omega) q6 hw' (fun u hu => hw1 u (Array.mem_toList_iff.1 hu)) off hN'
      have q3' := q3
      rw [ew] at q3'
      refine ⟨_, _, own, h, ?_, R1.writeObj hcs (splice_len hN') ?_ cur cur' ty q3 f2 f3⟩
      · show _ = Result.ok () (Y.w.setRow id cur')
        rw [run _ _ cur ty q3' (by have := (fits_spec hf').2; omega), f1, ew]
      · refine (cleans_iff _).2 fun z hz => ?_
        simp only [splice, List.mem_append] at hz
        rcases hz with (hz | hz) | hz
        · exact (cleans_iff _).1 ht.cl _ (List.mem_of_mem_take hz)
        · exact (cleans_iff _).1 (clean_cells hcl) _ hz
        · exact (cleans_iff _).1 ht.cl _ (List.mem_of_mem_drop hz)

theorem replicate_flat (n : Nat) (z : V) : flat (List.replicate n z) = (List.replicate n z.cells).flatten := by simp [flat, List.flatMap]

theorem made_cells {t : TypeId} {i : TI} (hT : TOk P t i) (X : Lay) {inf : TypeInfo} {z : Value} (h1 : P.info? t = some inf) (h2 : inf.zero = some z) (m n : Nat) (hmn : m ≤ n) :
    (madeCells z.cells (n * i.size)).size = n * i.size ∧
    ∀ k (_ : k < (flat (List.replicate m i.zero)).length) (h' : k < (madeCells z.cells (n * i.size)).size), Rep X (madeCells z.cells (n * i.size))[k] (flat (List.replicate m i.zero))[k] ∧ ((madeCells z.cells (n * i.size))[k]).oneCell' = true := by
  obtain ⟨inf', z', d, g1, g2, g3, g4, g5, g6, g7, g8, g9⟩ := hT.ex
  rw [h1] at g1; injection g1 with g1; subst g1
  rw [h2] at g4; injection g4 with g4; subst g4
  refine ⟨size_madeCells _ _, fun k hk h' => ?_⟩
  rw [size_madeCells] at h'
  have hp : 0 < i.size := by rcases Nat.eq_zero_or_pos i.size with e | e; · rw [e] at h'; simp at h'
                             · exact e
  have hz := rep_cells (g7 X) hT.ft
  have hzl := (fits_spec hT.ft).2
  have hm : k % i.size < i.size := Nat.mod_lt _ hp
  have hun : ∀ x ∈ List.replicate m i.zero, x.cells.length = i.size := fun x hx => by rw [List.eq_of_mem_replicate hx]; exact hzl
  have e1 : (madeCells z.cells (n * i.size))[k]'(by rw [size_madeCells]; exact h') = z.cells[k % i.size]'(by omega) := by
    simp [madeCells, g8, getElem!_pos, hm]
  have hd : k / i.size < m := (Nat.div_lt_iff_lt_mul hp).2 (by rw [flat_uniform hun, List.length_replicate] at hk; exact hk)
  have e2 : (flat (List.replicate m i.zero))[k] = i.zero.cells[k % i.size]'(by omega) := by
    have := flat_elem hun (k / i.size) (by simpa using hd)
    simp only [List.getElem_replicate] at this
    have h3 : i.zero.cells[k % i.size]? = (flat (List.replicate m i.zero))[k]? := by
      rw [← this, List.getElem?_take, if_pos hm, List.getElem?_drop]
      congr 1
      rw [Nat.mul_comm]; exact Nat.div_add_mod k i.size
    rw [List.getElem?_eq_getElem (by omega), List.getElem?_eq_getElem hk] at h3
    exact (Option.some.inj h3).symm
  rw [e1, e2]
  refine ⟨?_, g9 _ (Array.getElem_mem _)⟩
  have := hz.1.get (k % i.size) (by simp; omega) (by omega)
  simpa using this

/-- A home for one element. -/
theorem Rel.home1 {B : Base} {X : Lay} {own : Nat → Prop} {st : St} {a : Act} (R : Rel B X own st a) {d : Nat} (hd : st.mem.get d = none) {es : Nat} {ag : Bool} {x : V} {v : Value}
    (hx : Rep X v x) (hf : x.fits es ag = true) (ty : TypeId) :
    Rel B (X.newHome d (.cells v.cells ty) 1 1) (fun h => h = d ∨ own h) ⟨st.env.set d (.ref d 1 es 0 0), (d, ⟨es, ag, [x], false⟩) :: st.mem, st.om⟩ (a.put (some d) (.pointer (some ⟨X.w.heap.size, 0, none⟩))) := by
  obtain ⟨h1, h2⟩ := rep_cells hx hf
  have hl := (fits_spec hf).2
  have hsz : v.cells.size = es := by have := h1.len; simp at this; omega
  have hfl : flat [x] = x.cells := by simp [flat]
  refine R.newHome (els := [x]) hd (by simpa [uni] using hf) ty v.cells 1 (Nat.le_refl _) (by simp [maxLen]) (by omega) (fun k hk hk' => ?_) ?_
  · simp only [hfl] at hk ⊢
    refine ⟨?_, h2 _ (Array.getElem_mem _)⟩
    have := h1.get k (by simpa using hk') hk
    simpa using this
  · exact .ref _ _ _ _ _ _ _ (by simp [Lay.newHome]) (by simp [Lay.newHome]) fun _ => by simp [Lay.newHome]

theorem map_repL {B : Base} {X : Lay} {own : Nat → Prop} {st : St} {a : Act} (R : Rel B X own st a) {l : Array Operand} (h : l.all goodO = true) :
    (l.map a.eval).size = (l.toList.map st.opd).length ∧ ∀ k (h : k < (l.toList.map st.opd).length) (h' : k < (l.map a.eval).size), Rep X (l.map a.eval)[k] (l.toList.map st.opd)[k] := by
  refine ⟨by simp, fun k h1 h2 => ?_⟩
  simp only [List.getElem_map, Array.getElem_map, Array.getElem_toList]
  exact R.opd (by rw [Array.all_eq_true] at h; exact h k (by simpa using h2))

/-- All constants in it have ideal values. -/
def goodOp : Op → Bool
  | .move x | .assign x | .load _ x | .nilCheck x | .unOp _ _ x | .convert _ _ x | .makeInterface _ x | .box _ x | .fieldAddr _ x _ | .field _ x _ | .extract x _ => goodO x
  | .pick c a b => goodO c && goodO a && goodO b
  | .build _ ps | .buildSlice _ _ ps => ps.all fun p => goodO p.2
  | .store _ a x | .binOp _ _ a x _ | .indexAddr _ a x | .index _ a x | .makeSlice _ a x => goodO a && goodO x
  | .makeFunc _ fs cs => fs.all goodO && cs.all goodO
  | .slice _ x lo hi mx => goodO x && lo.all goodO && hi.all goodO && mx.all goodO
  | .call c => c.args.all goodO && (match c.callee with | .value f => goodO f | .invoke r _ => goodO r | _ => true)
  | _ => true

theorem opt_rep {B : Base} {X : Lay} {own : Nat → Prop} {st : St} {a : Act} (R : Rel B X own st a) {x : Option Operand} (h : x.all goodO = true) : OptRep X (x.map a.eval) (x.map st.opd) := by
  cases x with
  | none => exact rfl
  | some y => exact ⟨_, rfl, R.opd h⟩

theorem COk.und {cx : Cx} (C : COk P cx) {t : TypeId} {i : TI} (h : cx.T t = some i) : ∃ d, P.underlying t = some d ∧ i.k.fits P d :=
  let ⟨_, _, d, _, _, _, _, h5, h6, _⟩ := (C.T _ _ h).ex
  ⟨d, h5, h6⟩

theorem home_inv {st : St} {dst : Option Tmp} {es : Nat} {ag : Bool} {els : List V} {fz : Bool} {v : Nat → V} {K : St → Prop} (h : @home st dst es ag els fz v ⟨K⟩) :
    ∃ d, dst = some d ∧ st.mem.get d = none ∧ K ⟨st.env.set d (v d), (d, ⟨es, ag, els, fz⟩) :: st.mem, st.om⟩ := by
  unfold home at h
  obtain ⟨d, hd, h1, h2⟩ := so_inv h
  exact ⟨d, hd, h1, h2⟩

theorem pickB_inv {c : V} {A B : Prop} (h : @pickB c ⟨A⟩ ⟨B⟩) : ∃ x, c = .b x ∧ (x = true → A) ∧ (x = false → B) := by
  unfold pickB at h
  split at h
  · exact ⟨_, rfl, h⟩
  · exact h.elim

theorem run_eqGuard {op : BinOp} {t : TypeId} {x y : Operand} {a b : Value} {w : World} (h1 : a ≠ .nilIface) (h2 : ∀ cs, a ≠ .agg cs) : (eqGuard op t x y a b).run P w = .ok () w := by
  unfold eqGuard
  cases op <;> cases a <;> first | rfl | exact absurd rfl h1 | exact absurd rfl (h2 _)

theorem opds_repP {B : Base} {X : Lay} {own : Nat → Prop} {st : St} {a : Act} (R : Rel B X own st a) {ps : Array (Nat × Operand)} (h : ps.all (fun p => goodO p.2) = true) :
    RepP X (ps.map fun (i, x) => (i, a.eval x)).toList (opds st ps.toList) := by
  have h' : ∀ p ∈ ps.toList, goodO p.2 = true := fun p hp => by
    rw [Array.all_eq_true'] at h; exact h p (Array.mem_toList_iff.1 hp)
  rw [Array.toList_map]
  generalize ps.toList = l at h'
  induction l with
  | nil => exact .nil
  | cons p l ih => exact .cons (R.opd (h' p (by simp))) (ih fun q hq => h' q (by simp [hq]))

theorem byte_lt (s : ByteArray) (k : Nat) : byteAt s k < 2 ^ IntKind.u8.bits := (s.data.getD k 0).toNat_lt

theorem str_at {s : ByteArray} {k : Nat} (h : k < s.size) : s[k]? = some (s.data.getD k 0) := by
  rw [getElem?_pos s k h]
  congr 1
  have h' : k < s.data.size := h
  simp only [Array.getD, h', dif_pos]
  rfl

theorem ex1_sound {cx : Cx} (C : COk P cx) {B : Base} {o : Oper} {st : St} {K : St → Prop} (h : @ex1 cx st o.dst o.op ⟨K⟩) (hg : goodOp o.op = true) : Step P B o st K := by
  unfold ex1 at h
  split at h <;> first | exact h.elim | skip
  all_goals (rename_i hop; rw [hop] at hg; simp only [goodOp, Bool.and_eq_true] at hg)
  · exact .yield fun X own a R => ⟨_, _, h, R.opd hg, by simp [execOp, hop]⟩
  · exact .yield fun X own a R => ⟨_, _, h, R.opd hg, by simp [execOp, hop]⟩
  · rename_i c x y
    obtain ⟨b, hb, h1, h2⟩ := pickB_inv h
    refine .yield fun X own a R => ?_
    have hc := R.opd hg.1.1
    rw [hb] at hc
    have hc' : a.eval c = .bool b := by generalize a.eval c = v at hc; cases hc; rfl
    cases b with
    | true => exact ⟨_, _, h1 rfl, R.opd hg.1.2, by simp [execOp, hop, hc', asBool]⟩
    | false => exact ⟨_, _, h2 rfl, R.opd hg.2, by simp [execOp, hop, hc', asBool]⟩
  · rename_i e
    intro X own a R
    replace h := ti_inv h; obtain ⟨i, hi, h⟩ := h
    have hT := C.T _ _ hi
    obtain ⟨inf, z, dd, g1, g2, g3, g4, g5, g6, g7, g8, g9⟩ := hT.ex
    split at h
    · obtain ⟨st', Y, hK, ew, R'⟩ := thing_sound R e h (g7 X) hT.ft
      refine ⟨_, Y, own, .value _, _, hK, ?_, .inl rfl, R'⟩
      simp [execOp, hop, Instr.alloc, run_zeroValue' g1 g4, newVar, newRow, ew]
    replace h := home_inv h; obtain ⟨d, hd, hm, h⟩ := h
    refine ⟨_, _, _, _, _, h, ?_, .inl rfl, by rw [hd]; exact R.home1 hm (g7 X) hT.ft e⟩
    simp [execOp, hop, Instr.alloc, run_zeroValue' g1 g4, newVar, newRow, Lay.newHome]
  · rename_i e x
    intro X own a R
    replace h := ti_inv h; obtain ⟨i, hi, hf, h⟩ := h
    split at h
    · obtain ⟨st', Y, hK, ew, R'⟩ := thing_sound R e h (R.opd hg) hf
      refine ⟨_, Y, own, .value _, _, hK, ?_, .inl rfl, R'⟩
      simp [execOp, hop, Instr.box, newVar, newRow, ew]
    replace h := home_inv h; obtain ⟨d, hd, hm, h⟩ := h
    refine ⟨_, _, _, _, _, h, ?_, .inl rfl, by rw [hd]; exact R.home1 hm (R.opd hg) hf e⟩
    simp [execOp, hop, Instr.box, newVar, newRow, Lay.newHome]
  · rename_i t ps
    refine .yield fun X own a R => ?_
    obtain ⟨r, u, hK, hr, hrun⟩ := build_sound C (opds_repP R hg) h
    exact ⟨r, u, hK, hr, by simp [execOp, hop, hrun]⟩
  · refine .yield fun X own a R => ?_
    obtain ⟨r, u, hK, hr, hrun⟩ := load_sound C R h (R.opd hg)
    exact ⟨r, u, hK, hr, by simp [execOp, hop, hrun]⟩
  · intro X own a R
    obtain ⟨st', X', own', hK, hrun, R'⟩ := store_sound C R h (R.opd hg.1) (R.opd hg.2)
    exact ⟨_, X', own', .skip, undef, hK, by simp [execOp, hop, hrun], .inr ⟨rfl, rfl⟩, R'.set _ (.u _)⟩
  · rename_i x
    refine .yield fun X own a R => ?_
    have hx := R.opd hg
    unfold nilCheck at h
    split at h <;> first | exact h.elim | skip
    all_goals
      rename_i heq
      rw [heq] at hx
      have : ∃ ad, a.eval x = .pointer (some ad) := by generalize a.eval x = v at hx; cases hx; exact ⟨_, rfl⟩
      obtain ⟨ad, had⟩ := this
      exact ⟨_, _, h, hx, by simp [execOp, hop, had]⟩
  · rename_i t x y _
    replace h := ti_inv h; obtain ⟨i, hi, h⟩ := h
    refine .yield fun X own a R => ?_
    obtain ⟨r, u, hK, hr, hrun, n1, n2⟩ := bin_sound t i.k (C.und hi) h (R.opd hg.1) (R.opd hg.2)
    exact ⟨r, u, hK, hr, by simp [execOp, hop, run_eqGuard n1 n2, hrun]⟩
  · refine .yield fun X own a R => ?_
    obtain ⟨r, u, hK, hr, hrun⟩ := un_sound (P := P) h (R.opd hg)
    exact ⟨r, u, hK, hr, by simp [execOp, hop, hrun]⟩
  · replace h := ti_inv h; obtain ⟨i, hi, h⟩ := h
    replace h := ti_inv h; obtain ⟨di, hdi, h⟩ := h
    refine .yield fun X own a R => ?_
    obtain ⟨d, h1, _⟩ := C.und hi
    obtain ⟨r, u, hK, hr, hrun⟩ := conv_sound _ _ ⟨d, h1⟩ (C.und hdi) h (R.opd hg)
    exact ⟨r, u, hK, hr, by simp [execOp, hop, hrun]⟩
  · replace h := ti_inv h; obtain ⟨i, hi, hcn, h⟩ := h
    exact .yield fun X own a R => ⟨_, _, h, .ifc _ _ _ (R.opd hg), by simp [execOp, hop, run_makeInterface, (C.T _ _ hi).cn hcn]⟩
  · rename_i f fs cs
    refine .yield fun X own a R => ⟨_, .func f (fs.map a.eval) (cs.map a.eval), h, ?_, by simp [execOp, hop, Instr.makeFunc]⟩
    obtain ⟨h1, h2⟩ := map_repL R hg.1
    obtain ⟨h3, h4⟩ := map_repL R hg.2
    exact .fn _ _ _ _ _ h1 h3 h2 h4
  · rename_i t l c
    intro X own a R
    replace h := ti_inv h; obtain ⟨i, hi, h⟩ := h
    split at h <;> first | exact h.elim | skip
    rename_i e x y hk h1 h2
    replace h := ti_inv h; obtain ⟨ei, hei, ⟨h0, hxy, hm, hb⟩, h⟩ := h
    obtain ⟨m, rfl⟩ := int_nat h0
    obtain ⟨n, rfl⟩ := int_nat (Int.le_trans h0 hxy)
    have hmn : m ≤ n := by omega
    simp only [Int.toNat_natCast] at h
    have hl := R.opd hg.1
    have hc := R.opd hg.2
    rw [h1] at hl
    rw [h2] at hc
    have el : a.eval l = .int .i64 m := by generalize a.eval l = v at hl; cases hl; rfl
    have ec : a.eval c = .int .i64 n := by generalize a.eval c = v at hc; cases hc; rfl
    have hT := C.T _ _ hei
    obtain ⟨inf, z, dd, g1, g2, g3, g4, g5, g6, g7, g8, g9⟩ := hT.ex
    have hn : n ≤ most := by omega
    have hby : (inf.bytes : Int) * n ≤ 281474976710656 := by
      have : inf.bytes * n ≤ 64 * 1099511627776 := Nat.mul_le_mul (by omega) hn
      omega
    have hrun := run_make (P := P) X.w t e inf z (C.slice hi hk) g1 g4 .i64 .i64 m n (by omega) hxy hby (by unfold most at hn; omega)
    split at h
    · obtain ⟨m1, m2⟩ := made_cells hT X g1 g4 n n (Nat.le_refl _)
      replace h := so_inv h; obtain ⟨d, hd, h⟩ := h
      have hfl : (flat (List.replicate n ei.zero)).length = n * ei.size := by
        rw [flat_uniform (es := ei.size) fun x hx => by rw [List.eq_of_mem_replicate hx]; exact (fits_spec hT.ft).2, List.length_replicate]
      have hcl : cleans (flat (List.replicate n ei.zero)) = true := (cleans_iff _).2 (cleans_flat ((cleans_iff _).2 fun x hx => by rw [List.eq_of_mem_replicate hx]; exact hT.cl))
      obtain ⟨Y, ew, hn0, R'⟩ := R.thing (madeCells z.cells (n * ei.size)) e hcl
        (.of_get (by rw [hfl]; simp [m1]) fun k k1 k2 => by have := (m2 k k2 (by simpa using k1)).1; simpa using this)
        (fun v hv => by
          obtain ⟨k, hk, rfl⟩ := Array.mem_iff_getElem.1 hv
          exact (m2 k (by rw [hfl]; omega) hk).2)
      refine ⟨_, Y, own, .value (.slice (some ⟨X.w.heap.size, 0, none⟩) m n), _, h _ hn0, ?_, .inl rfl, ?_⟩
      rotate_left 1
      · rw [hd]
        exact R'.set (some d) (.ow _ _ _ _ _ (by omega) (by unfold most at hn; simp [maxLen]; omega) fun _ => rfl)
      · simp only [Int.toNat_natCast, g2] at hrun
        simp [execOp, hop, el, ec, hrun, ew]
    obtain ⟨m1, m2⟩ := made_cells hT X g1 g4 m n hmn
    replace h := home_inv h; obtain ⟨d, hd, hmem, h⟩ := h
    refine ⟨_, X.newHome d (.cells (madeCells z.cells (n * ei.size)) e) n (List.replicate m ei.zero).length, (fun h => h = d ∨ own h), .value (.slice (some ⟨X.w.heap.size, 0, none⟩) m n), _, h, ?_, .inl rfl, ?_⟩
    rotate_left 1
    · rw [hd]
      refine R.newHome (els := List.replicate m ei.zero) hmem (uni_iff.2 fun x hx => by rw [List.eq_of_mem_replicate hx]; exact hT.ft) e (madeCells z.cells (n * ei.size)) n (by simpa using hmn) (by unfold most at hn; simp [maxLen]; omega) m1 m2 (v := .slice (some ⟨X.w.heap.size, 0, none⟩) m n) ?_
      exact .row _ _ _ _ _ (by simp [Lay.newHome]) (by simp [Lay.newHome]) (Nat.le_refl _) hmn (by unfold most at hn; simp [maxLen]; omega) (fun e => by cases e) fun _ => by simp [Lay.newHome]
    · simp only [Int.toNat_natCast, g2] at hrun
      simp [execOp, hop, el, ec, hrun, Lay.newHome]
  · refine .yield fun X own a R => ?_
    obtain ⟨r, u, hK, hr, hrun⟩ := slice_sound C h (R.opd hg.1.1.1) (opt_rep R hg.1.1.2) (opt_rep R hg.1.2) (opt_rep R hg.2)
    exact ⟨r, u, hK, hr, by simp [execOp, hop, hrun]⟩
  · refine .yield fun X own a R => ?_
    obtain ⟨r, u, hK, hr, hrun⟩ := fieldAddr_sound C h (R.opd hg)
    exact ⟨r, u, hK, hr, by simp [execOp, hop, hrun]⟩
  · rename_i t x f
    obtain ⟨F, fd, hu, hf, h, inf, hi, hs⟩ := fieldOf_inv C h
    replace h := ti_inv h; obtain ⟨fi, hfi, h⟩ := h
    split at h <;> first | exact h.elim | skip
    rename_i cs hcs
    refine .yield fun X own a R => ?_
    have hx := R.opd hg
    rw [hcs] at hx
    have : ∃ vs, a.eval x = .agg vs := by generalize a.eval x = v at hx; cases hx; exact ⟨_, rfl⟩
    obtain ⟨vs, hvs⟩ := this
    rw [hvs] at hx
    obtain ⟨r, u, hK, hr, hrun⟩ := part_sound (C.T _ _ hfi) hx h
    exact ⟨r, u, hK, hr, by simp [execOp, hop, hvs, Instr.field, run_underlying hu, hf, asAgg, hrun]⟩
  · refine .yield fun X own a R => ?_
    obtain ⟨r, u, hK, hr, hrun⟩ := indexAddr_sound C R h (R.opd hg.1) (R.opd hg.2)
    exact ⟨r, u, hK, hr, by simp [execOp, hop, hrun]⟩
  · rename_i t x ix
    unfold indexV at h
    replace h := ti_inv h; obtain ⟨i, hi, h⟩ := h
    refine .yield fun X own a R => ?_
    have hx := R.opd hg.1
    have hy := R.opd hg.2
    split at h <;> first | exact h.elim | skip
    · rename_i n e cs k hk hcs hix
      replace h := ti_inv h; obtain ⟨ei, hei, ⟨h0, h1⟩, h⟩ := h
      rw [hcs] at hx
      rw [hix] at hy
      have : ∃ vs, a.eval x = .agg vs := by generalize a.eval x = v at hx; cases hx; exact ⟨_, rfl⟩
      obtain ⟨vs, hvs⟩ := this
      have ey : a.eval ix = .int .i64 k := by generalize a.eval ix = v at hy; cases hy; rfl
      rw [hvs] at hx
      have hT := C.T _ _ hei
      obtain ⟨r, u, hK, hr, hrun⟩ := part_sound hT hx h
      exact ⟨r, u, hK, hr, by simp [execOp, hop, hvs, ey, Instr.index, run_underlying (C.array hi hk), asIntOf, h0, h1, hT.size, hrun]⟩
    all_goals
      rename_i hk hcs hix
      rw [hcs] at hx
      rw [hix] at hy
      have hu : P.underlying t = some .string := by
        obtain ⟨d, hd, hf⟩ := C.und hi
        rw [hk] at hf; simp only [TK.fits] at hf; rw [hd, hf]
    · rename_i s k
      obtain ⟨⟨h0, h1⟩, h⟩ := h
      obtain ⟨k, rfl⟩ := int_nat h0
      have es : a.eval x = .string s := by generalize a.eval x = v at hx; cases hx; rfl
      have ey : a.eval ix = .int .i64 k := by generalize a.eval ix = v at hy; cases hy; rfl
      have hk' : k < s.size := by omega
      refine ⟨_, .int .u8 (byteAt s k : Nat), h, .n .u8 _ rfl (byte_lt s k), ?_⟩
      simp [execOp, hop, es, ey, Instr.index, run_underlying hu, asIntOf, str_at hk', byteAt]
    · rename_i s kk k
      obtain ⟨h1, h⟩ := h
      have es : a.eval x = .string s := by generalize a.eval x = v at hx; cases hx; rfl
      have ey : a.eval ix = .int kk k := by generalize a.eval ix = v at hy; cases hy; rfl
      refine ⟨_, .int .u8 (byteAt s k : Nat), h, .n .u8 _ rfl (byte_lt s k), ?_⟩
      simp [execOp, hop, es, ey, Instr.index, run_underlying hu, asIntOf, str_at h1, byteAt]
  · rename_i x j
    split at h <;> first | exact h.elim | skip
    rename_i vs hvs
    refine .yield fun X own a R => ?_
    have hx := R.opd hg
    rw [hvs] at hx
    replace h := so_inv h; obtain ⟨x', hx', h⟩ := h
    obtain ⟨hj, hx'⟩ := List.getElem?_eq_some_iff.1 hx'
    have : ∃ us, a.eval x = .tuple us ∧ ∃ hj' : j < us.size, Rep X us[j] vs[j] := by
      generalize a.eval x = v at hx
      cases hx with
      | tup us _ hz h1 => exact ⟨us, rfl, by omega, h1 j hj (by omega)⟩
    obtain ⟨us, hus, hj', hr⟩ := this
    rw [hx'] at hr
    exact ⟨_, _, h, hr, by simp [execOp, hop, hus, Instr.extract, hj']⟩
end
end Go.Proofs.Ytaojebdjkpdcdaa.I
