/- Whole bodies. -/
import Derived.Test.YtaojebdjkpdcdaaSched
import Derived.Orders
import Derived.Scope
import Derived.OrdersIn
namespace Go.Proofs.Ytaojebdjkpdcdaa.I
open Go

/-- A loop, by what an index tells of each round. -/
theorem wpIn_loop_ix {F : Fence} {m : Nat} {P : Program} {Q : Exit → Act → World → Prop} {c : Code} {σ : Type} (I : σ → Act → World → Prop) (μ : σ → Nat) {x : σ} {a : Act} {w : World} (h₀ : I x a w)
    (round : ∀ x a w, I x a w → c.wpIn F m P (Exit.then (fun a' w' => ∃ y, I y a' w' ∧ μ y < μ x) Q) a w) : (Code.loop c).wpIn F m P Q a w := by
  intro b k cs hro hb hr
  have key : ∀ n x a w, μ x = n → I x a w → ∃ e a' w', Q e a' w' ∧ ArrivesIn (Machine.fenced P F) P (lone (b.atR a (.code c :: .inLoop c :: k)) cs w) b k cs e a' w' := by
    intro n
    induction n using Nat.strongRecOn with
    | _ n ih =>
      intro x a w hn hI
      obtain ⟨e, a₁, w₁, hq, harr⟩ := round x a w hI b (.inLoop c :: k) cs hro hb hr
      cases e with
      | normal =>
        obtain ⟨y, hI₁, hlt⟩ := hq
        obtain ⟨e₂, a₂, w₂, hq₂, harr₂⟩ := ih (μ y) (hn ▸ hlt) y a₁ w₁ rfl hI₁
        exact ⟨e₂, a₂, w₂, hq₂, .of_steps (StepsIn.trans harr (.one (fenced_calm hb hr rfl) stepR_inLoop)) harr₂⟩
      | exit id => exact ⟨_, a₁, w₁, hq, .pass (x := .inLoop c) rfl (fun _ _ => .inl (by simp)) harr⟩
      | goto l => exact ⟨_, a₁, w₁, hq, .pass (x := .inLoop c) rfl (fun _ _ => .inl (by simp)) harr⟩
      | ret => exact ⟨_, a₁, w₁, hq, .pass (x := .inLoop c) rfl (fun _ _ => .inl (by simp)) harr⟩
      | panic ch => exact ⟨_, a₁, w₁, hq, .pass (x := .inLoop c) rfl (fun _ _ => .inl (by simp)) harr⟩
      | outgrown => exact ⟨_, a₁, w₁, hq, .pass (x := .inLoop c) rfl (fun _ _ => .inl (by simp)) harr⟩
  obtain ⟨e, a', w', hq, harr⟩ := key _ x a w rfl h₀
  exact ⟨e, a', w', hq, .of_steps (.one (fenced_calm hb hr rfl) stepR_loop) harr⟩

section
variable {P : Program} {b : Frame} {a : Act} {k : List Item} {cs : List Frame} {w : World}
theorem stepR_scope' {c : Code} : step P (lone (b.atR a (.code (.scope c) :: k)) cs w) = .next (lone (b.atR a (.code c :: .inScope c :: k)) cs w) :=
  step_lone_go (by simp [stepG, stepG.exec, Frame.atR])
theorem stepR_inScope' {c : Code} : step P (lone (b.atR a (.inScope c :: k)) cs w) = .next (lone (b.atR a k) cs w) :=
  step_lone_go (by simp [stepG, stepG.exec, Frame.atR])
end

theorem wpIn_scope' {F : Fence} {m : Nat} {P : Program} {Q : Exit → Act → World → Prop} {c : Code} {a : Act} {w : World} (h : c.wpIn F m P (Exit.noGoto Q) a w) : (Code.scope c).wpIn F m P Q a w := by
  intro b k cs hro hb hr
  have h0 : (lone (b.atR a (.code (.scope c) :: k)) cs w).fenced P F := fenced_calm hb hr rfl
  obtain ⟨e, a₁, w₁, hq, harr⟩ := h b (.inScope c :: k) cs hro hb hr
  cases e with
  | normal => exact ⟨.normal, a₁, w₁, hq, .head h0 stepR_scope' (StepsIn.trans harr (.one (fenced_calm hb hr rfl) stepR_inScope'))⟩
  | exit id =>
    have hx : exitTo id (.inScope c :: k) = exitTo id k := by simp [exitTo]
    exact ⟨.exit id, a₁, w₁, hq, fun k' hk => .head h0 stepR_scope' (harr.1 k' (by rw [hx]; exact hk)),
      fun hr' hk => let ⟨k₁, h1, h2⟩ := harr.2 hr' (by rw [hx]; exact hk); ⟨k₁, h1, .head h0 stepR_scope' h2⟩⟩
  | goto l => exact hq.elim
  | ret => exact ⟨_, a₁, w₁, hq, .of_steps (.one h0 stepR_scope') harr⟩
  | panic ch => exact ⟨_, a₁, w₁, hq, .of_steps (.one h0 stepR_scope') harr⟩
  | outgrown => exact ⟨_, a₁, w₁, hq, .of_steps (.one h0 stepR_scope') harr⟩

section
variable {P : Program}

theorem put_self {a : Act} {d : Tmp} (h : d < a.tmps.size) : a.put (some d) (a.tmps.getD d undef) = a := by
  cases a with
  | mk tmps defers =>
    simp only at h
    simp only [Act.put]
    congr 1
    apply Array.ext
    · simp
    · intro i h1 h2
      by_cases e : d = i
      · subst e; simp [Array.getD, h]
      · simp [Array.getElem_setIfInBounds_ne h2 e]

/-- What a slot is known to hold. -/
theorem Rel.know {B : Base} {X : Lay} {own : Nat → Prop} {st : St} {a : Act} (R : Rel B X own st a) {d : Tmp} (h : d < a.tmps.size) {y : V} (hy : Rep X (a.tmps.getD d undef) y) : Rel B X own (st.set (some d) y) a := by
  have := R.set (some d) hy
  rwa [put_self h] at this

theorem exs_sound {cx : Cx} (C : COk P cx) {B : Base} (Y : ∀ l c, cx.y = some (l, c) → YOk P B l c) {F : Fence} {m : Nat} (hF : FW F) {ops : Array Oper} (hg : ∀ o ∈ ops.toList, goodOp o.op = true) {K : St → Prop} {Q : Exit → Act → World → Prop} (hQ : ∀ a w, After B K a w → Q .normal a w) :
    ∀ (l : List Oper) (k : Nat), ops.toList.drop k = l → ∀ (st : St) (X : Lay) (own : Nat → Prop) (a : Act), @exs cx (ops.toList.map (·.dst)) l st ⟨K⟩ → Rel B X own st a → wpOpsIn F m P ops Q (List.range' k l.length) a X.w
  | [], k, hl, st, X, own, a, h, R => hQ _ _ ⟨st, X, own, h, rfl, R⟩
  | o :: l, k, hl, st, X, own, a, h, R => by
    have hk : k < ops.toList.length := by
      rcases Nat.lt_or_ge k ops.toList.length with h | h
      · exact h
      · rw [List.drop_eq_nil_of_le h] at hl; cases hl
    rw [List.drop_eq_getElem_cons hk] at hl
    injection hl with ho hl
    have hok : ops[k]? = some o := by
      rw [← ho]; simp at hk; simp [hk]
    have hgo := hg o (by rw [← ho]; exact List.getElem_mem hk)
    have ih := exs_sound C Y (m := m) hF hg hQ l (k + 1) hl
    simp only [List.length_cons, List.range'_succ, wpOpsIn, hok]
    have run : ∀ (st : St) (X : Lay) (own : Nat → Prop) (a : Act), @ex cx st o.dst o.op ⟨fun st => @exs cx (ops.toList.map (·.dst)) l st ⟨K⟩⟩ → Rel B X own st a → o.wpIn F m P a X.w (wpOpsIn F m P ops Q (List.range' (k + 1) l.length)) Q := by
      intro st X own a h R
      refine Oper.wpIn_mono ?_ (ex_sound C Y h hgo X own a R F m Q hF)
      rintro a w ⟨st', X', own', hK, rfl, R'⟩
      exact ih st' X' own' a hK R'
    simp only [exs] at h
    cases hgd : o.guard with
    | none =>
      simp only [hgd] at h
      rw [if_pos (by simp [Region.wanted, hgd])]
      exact (run st X own a h R)
    | some jw =>
      obtain ⟨j, w⟩ := jw
      simp only [hgd] at h
      obtain ⟨d, hd, h⟩ := so_inv h
      unfold guarded at h
      have hR := R.get d
      split at h <;> first | exact h.elim | skip
      rotate_left 1
      · rename_i ys hx
        rw [hx] at hR
        have hlt : d < st.env.length := by
          rcases Nat.lt_or_ge d st.env.length with h | h
          · exact h
          · simp [List.getD, List.getElem?_eq_none h] at hx
        have hlt' : d < a.tmps.size := by rw [R.tm]; exact hlt
        obtain ⟨vs, hv⟩ : ∃ vs, a.tmps.getD d undef = .tuple vs := by generalize a.tmps.getD d undef = v at hR; cases hR; exact ⟨_, rfl⟩
        have hyd : yielded ops a.tmps j = none := by
          have e1 : (ops[j]?).bind (·.dst) = some d := by
            simp only [List.getD, List.getElem?_map, Array.getElem?_toList] at hd
            cases he : ops[j]? with
            | none => simp [he] at hd
            | some o' => simpa [he] using hd
          have e2 : a.tmps[d]? = some (.tuple vs) := by
            rw [Array.getElem?_eq_getElem hlt', ← hv]; simp [Array.getD, hlt']
          simp [yielded, e1, e2]
        have hwant : Region.wanted o (yielded ops a.tmps) = false := by
          simp [Region.wanted, hgd, hyd]
        rw [hwant, if_neg (by simp)]
        exact ⟨fun f _ => hF.fn f, ih _ X own _ h (R.set o.dst (.tup #[] [] rfl fun k h1 h2 => by simp at h1))⟩
      rename_i x hx
      rw [hx] at hR
      have hlt : d < st.env.length := by
        rcases Nat.lt_or_ge d st.env.length with h | h
        · exact h
        · simp [List.getD, List.getElem?_eq_none h] at hx
      have hlt' : d < a.tmps.size := by rw [R.tm]; exact hlt
      have hv : a.tmps.getD d undef = .bool x := by generalize a.tmps.getD d undef = v at hR; cases hR; rfl
      have hyd : yielded ops a.tmps j = some x := by
        have e1 : (ops[j]?).bind (·.dst) = some d := by
          simp only [List.getD, List.getElem?_map, Array.getElem?_toList] at hd
          cases he : ops[j]? with
          | none => simp [he] at hd
          | some o' => simpa [he] using hd
        have e2 : a.tmps[d]? = some (.bool x) := by
          rw [Array.getElem?_eq_getElem hlt', ← hv]; simp [Array.getD, hlt']
        simp [yielded, e1, e2]
      have know : ∀ b, x = b → Rel B X own (st.set (some d) (.b b)) a := fun b hb => R.know hlt' (by rw [hv, hb]; exact .b b)
      have hwant : Region.wanted o (yielded ops a.tmps) = (x == w) := by
        simp [Region.wanted, hgd, hyd]
      rw [hwant]
      cases w <;> cases x
      · rw [if_pos (by simp)]; exact (run _ X own a (h.2 rfl) (know _ rfl))
      · rw [if_neg (by simp)]; exact ⟨fun f _ => hF.fn f, ih _ X own _ (h.1 rfl) ((know _ rfl).set o.dst (.tup #[] [] rfl fun k h1 h2 => by simp at h1))⟩
      · rw [if_neg (by simp)]; exact ⟨fun f _ => hF.fn f, ih _ X own _ (h.2 rfl) ((know _ rfl).set o.dst (.tup #[] [] rfl fun k h1 h2 => by simp at h1))⟩
      · rw [if_pos (by simp)]; exact (run _ X own a (h.1 rfl) (know _ rfl))

theorem wanted_of {B : Base} {X : Lay} {own : Nat → Prop} {st : St} {a : Act} (R : Rel B X own st a) {ops : Array Oper} {o : Oper} {b : Bool} (h : want ops.toList o st = some b) : Region.wanted o (yielded ops a.tmps) = b := by
  unfold want at h
  cases hg : o.guard with
  | none => simp [hg] at h; simp [Region.wanted, hg, ← h]
  | some jw =>
    obtain ⟨j, w⟩ := jw
    simp only [hg] at h
    cases hd : (ops.toList.map (·.dst)).getD j none with
    | none => rw [hd] at h; cases h
    | some d =>
    rw [hd] at h
    simp only at h
    have hR := R.get d
    cases hx : st.env.getD d .u <;> rw [hx] at h hR <;> try (cases h; done)
    rotate_left 1
    · injection h with h
      subst h
      have hv : ∀ x, a.tmps[d]? ≠ some (.bool x) := fun x e => by
        have e2 : a.tmps.getD d undef = .bool x := by simp [Array.getD_eq_getD_getElem?, e]
        rw [e2] at hR
        cases hR
      have e1 : (ops[j]?).bind (·.dst) = some d := by
        simp only [List.getD, List.getElem?_map, Array.getElem?_toList] at hd
        cases he : ops[j]? with
        | none => simp [he] at hd
        | some o' => simpa [he] using hd
      have hy : yielded ops a.tmps j = none := by
        unfold yielded
        rw [e1]
        split
        · rename_i b hb; exact absurd hb (hv b)
        · rfl
      simp [Region.wanted, hg, hy]
    rename_i x
    injection h with h
    have hlt : d < st.env.length := by
      rcases Nat.lt_or_ge d st.env.length with h | h
      · exact h
      · simp [List.getD, List.getElem?_eq_none h] at hx
    have hlt' : d < a.tmps.size := by rw [R.tm]; exact hlt
    have hv : a.tmps.getD d undef = .bool x := by generalize a.tmps.getD d undef = v at hR; cases hR; rfl
    have e1 : (ops[j]?).bind (·.dst) = some d := by
      simp only [List.getD, List.getElem?_map, Array.getElem?_toList] at hd
      cases he : ops[j]? with
      | none => simp [he] at hd
      | some o' => simpa [he] using hd
    have e2 : a.tmps[d]? = some (.bool x) := by
      rw [Array.getElem?_eq_getElem hlt', ← hv]; simp [Array.getD, hlt']
    simp [Region.wanted, hg, yielded, e1, e2, h]

/-- How many are not yet done. -/
def leftN (l : Array Bool) : Nat → Nat
  | 0 => 0
  | n + 1 => leftN l n + if l.getD n true = true then 0 else 1

theorem leftN_le (l : Array Bool) : ∀ n, leftN l n ≤ n
  | 0 => Nat.le_refl _
  | n + 1 => by simp only [leftN]; have := leftN_le l n; split <;> omega

theorem getD_set_true (l : Array Bool) (i : Nat) : (l.setIfInBounds i true).getD i true = true := by
  simp only [Array.getD_eq_getD_getElem?, Array.getElem?_setIfInBounds_self]
  split <;> simp

theorem leftN_set (l : Array Bool) (i : Nat) (h : l.getD i true = false) : ∀ n, leftN (l.setIfInBounds i true) n + (if i < n then 1 else 0) = leftN l n
  | 0 => rfl
  | n + 1 => by
    simp only [leftN]
    have := leftN_set l i h n
    by_cases e : n = i
    · subst e
      rw [getD_set_true, h]
      simp only [if_true, Nat.lt_irrefl, if_false] at this ⊢
      simp; omega
    · rw [getD_set l i n true e]
      split at this <;> split <;> split <;> omega

def left (ops : Array Oper) (l : Array Bool) : Nat := leftN l ops.size

theorem left_set {ops : Array Oper} {l : Array Bool} {i : Nat} (h : i ∈ Region.ready .any ops l) : left ops (l.setIfInBounds i true) < left ops l := by
  obtain ⟨h1, h2, _⟩ := ready_iff.1 h
  have := leftN_set l i h2 ops.size
  rw [if_pos h1] at this
  unfold left; omega

theorem any_sound {cx : Cx} (C : COk P cx) {B : Base} (Y : ∀ l c, cx.y = some (l, c) → YOk P B l c) {F : Fence} {m : Nat} (hF : FW F) {fl : Bool} {ops : Array Oper} (hg : ∀ o ∈ ops.toList, goodOp o.op = true) {K : St → Prop} {Q : Exit → Act → World → Prop} (hQ : ∀ a w, After B K a w → Q .normal a w) :
    ∀ (fuel : Nat) (l : Array Bool) (t : Sch) (st : St) (X : Lay) (own : Nat → Prop) (a : Act), left ops l ≤ fuel → okT cx fl ops t true l = true → @exT cx fl ops.toList t st ⟨K⟩ → Rel B X own st a → wpAnyIn F m P .any ops Q fuel l a X.w := by
  have nil : ∀ (l : Array Bool) (t : Sch) (st : St) (X : Lay) (own : Nat → Prop) (a : Act), okT cx fl ops t true l = true → @exT cx fl ops.toList t st ⟨K⟩ → Rel B X own st a → Region.ready .any ops l = [] → Q .normal a X.w := by
    intro l t st X own a hk hT R hr
    cases t with
    | done => exact hQ _ _ ⟨st, X, own, hT, rfl, R⟩
    | take i n => simp [okT, hr] at hk
    | alt i n r => simp [okT, hr] at hk
    | no => simp [okT] at hk
  intro fuel
  induction fuel with
  | zero =>
    intro l t st X own a hf hk hT R
    have hr : Region.ready .any ops l = [] := by
      refine List.eq_nil_iff_forall_not_mem.2 fun i hi => ?_
      have := left_set hi
      omega
    exact ⟨hr, nil l t st X own a hk hT R hr⟩
  | succ fuel ih =>
    intro l t st X own a hf hk hT R
    refine ⟨nil l t st X own a hk hT R, fun i hi => ?_⟩
    obtain ⟨n, hn, hstep⟩ := bring (fun f c h => (C.cs f c h).mono) C.qs t l i hk hi
    obtain ⟨o, ho, hG⟩ := hstep st K hT
    obtain ⟨b, hb, h1, h2⟩ := (exG_iff cx fl ops.toList).1 hG
    have hleft := left_set hi
    have hw := wanted_of R hb
    unfold wpOpIn
    simp only [ho, hw]
    cases b with
    | false =>
      rw [if_neg (by simp)]
      refine ⟨fun f _ => hF.fn f, ?_⟩
      exact ih _ n _ X own _ (by omega) hn (h2 rfl) (R.set o.dst (.tup #[] [] rfl fun k h1 h2 => by simp at h1))
    | true =>
      rw [if_pos rfl]
      refine Oper.wpIn_mono ?_ (ex_sound C Y (h1 rfl).2 (hg o (by
        have := Array.mem_of_getElem? ho; exact Array.mem_toList_iff.2 this)) X own a R F m Q hF)
      rintro a w ⟨st', X', own', hK, rfl, R'⟩
      exact ih _ n st' X' own' a (by omega) hn hK R'

/-! ### a state that says less -/

theorem leE_get {m : Mem} : ∀ {s t : List V}, leE m s t → s.length = t.length ∧ ∀ k (h : k < s.length) (h' : k < t.length), leV m s[k] t[k]
  | [], [], _ => ⟨rfl, fun k h => by simp at h⟩
  | [], _ :: _, h => h.elim
  | _ :: _, [], h => h.elim
  | a :: s, c :: t, h => by
    obtain ⟨h1, h2⟩ := leE_get h.2
    refine ⟨by simp [h1], fun k hk hk' => ?_⟩
    cases k with
    | zero => exact h.1
    | succ k => exact h2 k (by simpa using hk) (by simpa using hk')

theorem leM_get {m : Mem} : ∀ {l : Mem}, leM m l → ∀ h H, l.get h = some H → m.get h = some H ∨ (m.get h = none ∧ H.els = [])
  | [], _, h, H, e => by simp [Mem.get] at e
  | (g, G) :: l, hl, h, H, e => by
    simp only [Mem.get] at e
    split at e
    · rename_i hh; subst hh; injection e with e; subst e; exact hl.1
    · exact leM_get hl.2 h H e

theorem mem_keys : ∀ (l : Mem) (h : Nat), h ∈ l.map (·.1) ↔ (l.get h).isSome
  | [], h => by simp [Mem.get]
  | (g, G) :: l, h => by
    simp only [List.map_cons, List.mem_cons, Mem.get, mem_keys l h]
    by_cases e : h = g <;> simp [e]

theorem withinM_get {hs : List Nat} : ∀ {l : Mem}, withinM hs l = true → ∀ h H, l.get h = some H → withins hs H.els = true
  | [], _, h, H, e => by simp [Mem.get] at e
  | (g, G) :: l, hl, h, H, e => by
    simp only [withinM, Bool.and_eq_true] at hl
    simp only [Mem.get] at e
    split at e
    · injection e with e; subst e; exact hl.1
    · exact withinM_get hl.2 h H e

theorem within_cells {hs : List Nat} {x : V} (h : x.within hs = true) : withins hs x.cells = true := by
  cases x <;> simp_all [V.cells, V.within, withins]

theorem within_flat {hs : List Nat} {xs : List V} (h : withins hs xs = true) : withins hs (flat xs) = true := by
  rw [withins_iff] at *
  intro y hy
  obtain ⟨x, hx, hy⟩ := List.mem_flatMap.1 hy
  exact (withins_iff _ _).1 (within_cells (h x hx)) y hy

/-- Fewer homes, and new ones that are empty. -/
def Lay.keep (X : Lay) (m : Mem) (hs : List Nat) : Lay := { X with live := (· ∈ hs), L := fun h => if m.get h = none then 0 else X.L h, cap := fun h => if m.get h = none then 0 else X.cap h }

theorem Rel.weaken {B : Base} {X : Lay} {own : Nat → Prop} {s t : St} {a : Act} (R : Rel B X own s a) (h : s.le t) : Rel B (X.keep s.mem (t.mem.map (·.1))) (fun h => own h ∧ s.mem.get h ≠ none) t a := by
  obtain ⟨h1, h2, h3, h4, h5⟩ := h
  obtain ⟨e1, e2⟩ := leE_get h1
  have lv : ∀ g, s.mem.get g ≠ none → X.live g := fun g hg => (R.lv g).2 (by cases e : s.mem.get g with
    | none => exact absurd e hg
    | some H => rfl)
  have nl : ∀ g, X.live g → s.mem.get g ≠ none := fun g hg e => by have := (R.lv g).1 hg; rw [e] at this; cases this
  have dr : ∀ {v x}, Rep X v x → x.within (t.mem.map (·.1)) = true → Rep (X.keep s.mem (t.mem.map (·.1))) v x := fun hr hw =>
    Rep.drop' (fun g hg => ⟨if_neg (nl g hg), if_neg (nl g hg)⟩) hr hw
  refine ⟨by rw [R.tm, e1], ?_, R.df, fun g => mem_keys _ _, ?_, fun g g' _ _ o o' e => R.ij g g' (lv g o.2) (lv g' o'.2) o.1 o'.1 e, fun g _ ho => (by
    cases e : t.om (X.j g).1 with
    | none => exact e
    | some cs => have := h3 _ _ e; rw [R.dj g (lv g ho.2) ho.1] at this; cases this), ?_, R.sb, R.fn, R.fb, R.fS, R.fS', fun id hid hlt => (by
    cases e : t.om id with
    | none => exact absurd e hid
    | some cs => exact R.fo id (by rw [h3 _ _ e]; simp) hlt)⟩
  · intro k hk hk'
    have hw := (withins_iff _ _).1 h4 _ (List.getElem_mem hk)
    have hr := R.rp k (by rw [e1]; exact hk) hk'
    have hl := e2 k (by rw [e1]; exact hk) hk
    unfold leV at hl
    split at hl
    · rename_i hu; rw [hu]; exact .u _
    · rename_i g n len hu
      rw [hu] at hw ⊢
      rcases hl with hl | ⟨⟨rfl, rfl⟩, hn, hl⟩
      · rw [hl] at hr; exact dr hr hw
      · have hg : g ∈ t.mem.map (·.1) := by simpa [V.within] using hw
        rcases hl with hl | hl
        · rw [hl] at hr
          generalize a.tmps[k] = v at hr
          cases hr
          exact .row g 0 0 none 0 hg (Nat.zero_le _) (Nat.le_refl _) (Nat.le_refl _) (Nat.zero_le _) (fun _ => rfl) fun _ => ⟨by simp [Lay.keep, hn], fun h => by simp [Lay.keep, hn] at h⟩
        · rw [hl] at hr
          generalize a.tmps[k] = v at hr
          cases hr
          exact .row g 0 0 _ 0 hg (Nat.zero_le _) (Nat.le_refl _) (Nat.le_refl _) (Nat.zero_le _) (fun _ => rfl) fun _ => ⟨by simp [Lay.keep, hn], fun h => by simp [Lay.keep, hn] at h⟩
    · rename_i xs hu
      rw [hu] at hw ⊢
      rcases hl with hl | hl | ⟨rfl, hl⟩
      · rw [hl] at hr; exact dr hr hw
      · rw [hl] at hr
        have hr' := dr hr (by simp only [V.within] at hw ⊢)
        generalize a.tmps[k] = v at hr'
        cases hr' with
        | lit b o es _ vals hcm hcl hu h1 h2 => exact .sl b o _ es _ vals (Nat.le_refl _) hcm hcl hu h1 h2
      · rw [hl] at hr
        generalize a.tmps[k] = v at hr
        cases hr
        exact .sl0 _ _
    · rw [hl] at hr
      exact dr hr hw
  · intro g H hH
    rcases leM_get h2 g H hH with hg | ⟨hg, he⟩
    · have hm := R.hm g H hg
      have hne : s.mem.get g ≠ none := by rw [hg]; simp
      have hw := (withins_iff _ _).1 (within_flat (withinM_get h5 g H hH))
      refine ⟨by simp only [Lay.keep, if_neg hne]; exact hm.L, hm.uni, ?_⟩
      rcases hm.lay with ⟨q0, q00, q1, q2, ⟨cur, ty, c1, c2, c3, c4⟩, q5, q6⟩ | ⟨q0, q1, q2, ⟨vals, c1, c2⟩⟩
      · refine .inl ⟨⟨q0, hne⟩, q00, ?_, ?_, ⟨cur, ty, c1, ?_, ?_, fun k hk hk' => ⟨dr (c4 k hk hk').1 (hw _ (List.getElem_mem hk)), (c4 k hk hk').2⟩⟩, q5, q6⟩
        · simp only [Lay.keep, if_neg hne]; exact q1
        · simp only [Lay.keep, if_neg hne]; exact q2
        · simp only [Lay.keep, if_neg hne]; exact c2
        · simp only [Lay.keep, if_neg hne]; exact c3
      · refine .inr ⟨fun ho => q0 ho.1, ?_, q2, vals, c1, fun k hk => dr (c2 k hk) (hw _ (List.getElem_mem hk))⟩
        simp only [Lay.keep, if_neg hne]; exact q1
    · refine ⟨by simp [Lay.keep, hg, he], by simp [he, I.uni], .inr ⟨fun ho => ho.2 hg, by simp [Lay.keep, hg, he], .inr he, ?_⟩⟩
      rw [he]
      exact ⟨fun _ => undef, fun k hk => by simp [flat] at hk, fun k hk => by simp [flat] at hk⟩
  · intro id cs hcs
    have ht := R.ob id cs (h3 _ _ hcs)
    obtain ⟨cur, ty, c1, c2, c3, c4⟩ := ht.cells
    exact ⟨ht.cl, ⟨cur, ty, c1, c2, c3, fun k hk hk' => ⟨Rep.move (X := X) (Y := X.keep s.mem (t.mem.map (·.1))) (fun _ _ h => h) (fun _ _ _ => rfl) (c4 k hk hk').1 ((cleans_iff _).1 ht.cl _ (List.getElem_mem hk)), (c4 k hk hk').2⟩⟩, ht.S⟩

