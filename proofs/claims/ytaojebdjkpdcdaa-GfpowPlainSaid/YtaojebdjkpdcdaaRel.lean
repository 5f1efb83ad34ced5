/- How an ideal state lies in a world. -/
import Derived.Test.YtaojebdjkpdcdaaRep
import Derived.Laws.CopyRow
import Derived.Laws.Build
import Derived.Calls
import Derived.RangeFuncRecord
namespace Go.Proofs.Ytaojebdjkpdcdaa.I
open Go

/-- The world as a call began. -/
structure Base where
  w : World
  S : Nat → Nat → Prop
  om : Om
  ds : List Deferred

/-- What is known of a type is so. -/
def TK.fits (P : Program) (k : TK) (d : TypeDesc) : Prop :=
  match k with
  | .int k => d = .int k
  | .bool => d = .bool
  | .slice e => d = .slice e
  | .struct fs => ∃ F : Array Field, d = .struct F ∧ fs = F.toList.map (fun f => (f.offset, f.type)) ∧ ∀ f ∈ F, ∃ inf, P.info? f.type = some inf ∧ inf.size ≠ 0
  | .array n e => d = .array n e
  | .ptr e => d = .pointer e
  | .string => d = .string
  | .other => (∀ F, d ≠ .struct F) ∧ ∀ n e, d ≠ .array n e

structure TOk (P : Program) (t : TypeId) (i : TI) : Prop where
  ex : ∃ (inf : TypeInfo) (z : Value) (d : TypeDesc), P.info? t = some inf ∧ inf.size = i.size ∧ inf.bytes = i.bytes ∧ inf.zero = some z ∧ P.underlying t = some d ∧ i.k.fits P d ∧
    (∀ X, Rep X z i.zero) ∧ z.cells.size = i.size ∧ (∀ v ∈ z.cells, v.oneCell' = true)
  cl : i.zero.clean = true
  ft : i.zero.fits i.size i.isAgg = true
  sz : i.isAgg = false → i.size = 1
  cn : i.cn = true → P.concrete t = true

/-- Lists of real values and ideal ones, one by one. -/
inductive RepL (X : Lay) : List Value → List V → Prop
  | nil : RepL X [] []
  | cons {v : Value} {x : V} {vs : List Value} {xs : List V} : Rep X v x → RepL X vs xs → RepL X (v :: vs) (x :: xs)

/-- The cells of a row, that are never written any more. -/
def Fixed (X : Lay) (b o : Nat) (cs : List V) : Prop :=
  ∃ vals : Nat → Value, (∀ k, k < cs.length → X.S b (o + k) ∧ X.at b (o + k) = some (vals k) ∧ (vals k).oneCell' = true) ∧ ∀ k (h : k < cs.length), Rep X (vals k) cs[k]

/-- Cells of the call's own. -/
def Cells (X : Lay) (b : Nat) (n : Nat) (cs : List V) : Prop :=
  ∃ (cur : Array Value) (ty : TypeId), X.w.heap[b]? = some (.cells cur ty (0, 0)) ∧ cur.size = n ∧ cs.length ≤ n ∧
    (∀ k (_ : k < cs.length) (h' : k < cur.size), Rep X cur[k] cs[k] ∧ (cur[k]).oneCell' = true)

structure Home (B : Base) (X : Lay) (own : Nat → Prop) (h : Nat) (H : Hm) : Prop where
  L : X.L h = H.els.length
  uni : uni H.es H.ag H.els = true
  lay : (own h ∧ (X.j h).2 = 0 ∧ H.els.length ≤ X.cap h ∧ X.cap h ≤ maxLen ∧ Cells X (X.j h).1 (X.cap h * H.es) (flat H.els) ∧ B.w.heap.size ≤ (X.j h).1 ∧
          (∀ o, X.S (X.j h).1 o → H.fz = true ∧ o < (flat H.els).length)) ∨
        (¬ own h ∧ X.cap h = H.els.length ∧ (H.fz = true ∨ H.els = []) ∧ Fixed X (X.j h).1 (X.j h).2 (flat H.els))

/-- An object. -/
structure Thing (X : Lay) (id : Nat) (cs : List V) : Prop where
  cl : cleans cs = true
  cells : Cells X id cs.length cs
  S : ∀ o, ¬ X.S id o

/-- There is no less memory; nothing was asked of the world outside, nothing told it. -/
structure Grown (w w' : World) : Prop where
  size : w.heap.size ≤ w'.heap.size
  os : w'.os = w.os
  tape : w'.tape = w.tape
  output : w'.output = w.output
theorem Grown.refl (w : World) : Grown w w := ⟨Nat.le_refl _, rfl, rfl, rfl⟩
theorem Grown.trans {a b c : World} (h : Grown a b) (g : Grown b c) : Grown a c := ⟨Nat.le_trans h.size g.size, g.os.trans h.os, g.tape.trans h.tape, g.output.trans h.output⟩
theorem Grown.alloc {a b : World} (h : Grown a b) (o : Obj) : Grown a (b.alloc o) := ⟨by have := h.size; simp only [World.alloc, Array.size_push]; omega, h.os, h.tape, h.output⟩
/-- Memory is as it was, and so is the world outside. -/
structure Still (w w' : World) : Prop where
  heap : w'.heap = w.heap
  os : w'.os = w.os
  tape : w'.tape = w.tape
  output : w'.output = w.output
theorem Grown.still {a b c : World} (h : Grown a b) (g : Still b c) : Grown a c := ⟨by rw [g.heap]; exact h.size, g.os.trans h.os, g.tape.trans h.tape, g.output.trans h.output⟩

structure Rel (B : Base) (X : Lay) (own : Nat → Prop) (st : St) (a : Act) : Prop where
  tm : a.tmps.size = st.env.length
  rp : ∀ k (h : k < st.env.length) (h' : k < a.tmps.size), Rep X a.tmps[k] st.env[k]
  df : a.defers = B.ds
  lv : ∀ h, X.live h ↔ (st.mem.get h).isSome
  hm : ∀ h H, st.mem.get h = some H → Home B X own h H
  ij : ∀ h h', X.live h → X.live h' → own h → own h' → (X.j h).1 = (X.j h').1 → h = h'
  dj : ∀ h, X.live h → own h → st.om (X.j h).1 = none
  ob : ∀ id cs, st.om id = some cs → Thing X id cs
  sb : ∀ b o, X.S b o → b < X.w.heap.size
  fn : Grown B.w X.w
  fb : ∀ b, b < B.w.heap.size → B.om b = none → X.w.heap[b]? = B.w.heap[b]?
  fS : ∀ b o, B.S b o → X.S b o
  fS' : ∀ b o, X.S b o → b < B.w.heap.size → B.S b o
  fo : ∀ id, st.om id ≠ none → id < B.w.heap.size → B.om id ≠ none

theorem Fixed.mono {X Y : Lay} (le : X.Le Y) {b o : Nat} {cs : List V} (h : Fixed X b o cs) : Fixed Y b o cs :=
  let ⟨vals, h1, h2⟩ := h
  ⟨vals, fun k hk => ⟨le.S _ _ (h1 k hk).1, (le.w _ _ (h1 k hk).1).trans (h1 k hk).2.1, (h1 k hk).2.2⟩, fun k hk => (h2 k hk).mono le⟩

theorem Cells.mono {X Y : Lay} (le : X.Le Y) {b n : Nat} {cs : List V} (hb : Y.w.heap[b]? = X.w.heap[b]?) (h : Cells X b n cs) : Cells Y b n cs :=
  let ⟨cur, ty, h1, h2, h3, h4⟩ := h
  ⟨cur, ty, hb.trans h1, h2, h3, fun k hk hk' => ⟨((h4 k hk hk').1).mono le, (h4 k hk hk').2⟩⟩

theorem Rep.sl_fixed {X : Lay} {b o c es : Nat} {xs : List V} (hc : xs.length ≤ c) (hcm : c ≤ maxLen) (hcl : cleans xs = true) (hu : ∀ x ∈ xs, x.cells.length = es) (h : Fixed X b o (flat xs)) :
    Rep X (.slice (some ⟨b, o, none⟩) xs.length c) (.sl xs) :=
  let ⟨vals, h1, h2⟩ := h
  .sl b o c es xs vals hc hcm hcl hu h1 h2

theorem Rep.pc_fixed {X : Lay} {b o off : Nat} {cs : List V} (hcl : cleans cs = true) (h : Fixed X b o cs) : Rep X (.pointer (some ⟨b, o + off, none⟩)) (.pc cs off) :=
  let ⟨vals, h1, h2⟩ := h
  .pc b o cs off vals hcl h1 h2

theorem Rel.get {B : Base} {X : Lay} {own : Nat → Prop} {st : St} {a : Act} (R : Rel B X own st a) (t : Tmp) : Rep X (a.tmps.getD t undef) (st.env.getD t .u) := by
  by_cases h : t < st.env.length
  · have h' : t < a.tmps.size := by rw [R.tm]; exact h
    have := R.rp t h h'
    simpa [Array.getD, List.getD, h, h'] using this
  · have e : st.env.getD t .u = .u := by simp [List.getD, List.getElem?_eq_none (Nat.le_of_not_lt h)]
    rw [e]; exact .u _

theorem Rel.set {B : Base} {X : Lay} {own : Nat → Prop} {st : St} {a : Act} (R : Rel B X own st a) (dst : Option Tmp) {v : Value} {x : V} (h : Rep X v x) : Rel B X own (st.set dst x) (a.put dst v) := by
  cases dst with
  | none => exact R
  | some d =>
    refine { R with tm := ?_, rp := ?_, df := R.df, lv := R.lv, hm := R.hm, ob := R.ob, fo := R.fo, dj := R.dj }
    · simp [Act.put, St.set, R.tm]
    · intro k hk hk'
      simp only [St.set, List.length_set] at hk
      simp only [Act.put, Array.size_setIfInBounds] at hk'
      by_cases e : d = k
      · subst e
        simp only [Act.put, St.set, List.getElem_set_self, Array.getElem_setIfInBounds_self]
        exact h
      · have e1 : (a.put (some d) v).tmps[k]'(by simpa [Act.put] using hk') = a.tmps[k] := by
          simp only [Act.put]; exact Array.getElem_setIfInBounds_ne hk' e
        have e2 : (st.set (some d) x).env[k]'(by simpa [St.set] using hk) = st.env[k] := by
          simp only [St.set]; exact List.getElem_set_ne e _
        rw [e1, e2]; exact R.rp k hk hk'

/-- A constant that has an ideal value. -/
def goodV : Value → Bool
  | .int .i64 x => -9223372036854775808 ≤ x && x ≤ 9223372036854775807
  | .int k x => !k.signed && 0 ≤ x && x < 2 ^ k.bits
  | .string x => x.size ≤ maxLen
  | _ => true

theorem rep_ofVal (X : Lay) {v : Value} (h : goodV v = true) : Rep X v (V.ofVal v) := by
  cases v with
  | bool x => exact .b x
  | int k x =>
    cases k <;> simp [goodV, IntKind.signed] at h <;> simp only [V.ofVal]
    case i64 => exact .z x (by simp [i64ok]; omega)
    all_goals
      obtain ⟨h0, h1⟩ := h
      obtain ⟨m, rfl⟩ := Int.eq_ofNat_of_zero_le h0
      refine .n _ m rfl ?_
      simp only [IntKind.bits] at h1 ⊢
      omega
  | string x => exact .s x (by simpa [goodV] using h)
  | slice a n c => cases a <;> cases n <;> cases c <;> first | exact .nils | exact .u _
  | pointer a => cases a <;> first | exact .nilp | exact .u _
  | nilIface => exact .nili
  | nilFunc => exact .nilf
  | _ => exact .u _

def goodO : Operand → Bool
  | .const v => goodV v
  | _ => true

theorem Rel.opd {B : Base} {X : Lay} {own : Nat → Prop} {st : St} {a : Act} (R : Rel B X own st a) {x : Operand} (h : goodO x = true) : Rep X (a.eval x) (st.opd x) := by
  cases x with
  | tmp t => exact R.get t
  | const v => exact rep_ofVal X h
  | global g => exact .u _
  | func f => exact .fn (.func f) #[] [] #[] [] rfl rfl (fun k h => by simp at h) (fun k h => by simp at h)

/-- What a call leaves of the world that it began in. -/
structure Kept (B : Base) (X : Lay) (om : Om) : Prop where
  ob : ∀ id cs, om id = some cs → Thing X id cs
  sb : ∀ b o, X.S b o → b < X.w.heap.size
  fn : Grown B.w X.w
  fb : ∀ b, b < B.w.heap.size → B.om b = none → X.w.heap[b]? = B.w.heap[b]?
  fS : ∀ b o, B.S b o → X.S b o
  fS' : ∀ b o, X.S b o → b < B.w.heap.size → B.S b o
  fo : ∀ id, om id ≠ none → id < B.w.heap.size → B.om id ≠ none

theorem Rel.kept {B : Base} {X : Lay} {own : Nat → Prop} {st : St} {a : Act} (R : Rel B X own st a) : Kept B X st.om :=
  ⟨R.ob, R.sb, R.fn, R.fb, R.fS, R.fS', R.fo⟩

structure Good (X : Lay) (om : Om) : Prop where
  ob : ∀ id cs, om id = some cs → Thing X id cs
  sb : ∀ b o, X.S b o → b < X.w.heap.size

/-- A call returns what the ideal one tells. -/
def Tells (P : Program) (f : FuncId) (X : Lay) (om : Om) (vs : Array Value) (Q : V → Om → Prop) : Prop :=
  Calls P f vs X.w fun e w' => ∃ v Y r om', e = .returned v ∧ Y.w = w' ∧ Q r om' ∧ Rep Y v r ∧ r.clean = true ∧ Kept ⟨X.w, X.S, om, []⟩ Y om'

/-- A contract tells more to who asks less. -/
def Mono (c : Cn) : Prop := ∀ args om (K K' : V → Om → Prop), (∀ r om, K r om → K' r om) → @c args om ⟨K⟩ → @c args om ⟨K'⟩

/-- It leaves all objects as they are. -/
def Quiet (c : Cn) : Prop := ∀ args om (K : V → Om → Prop), @c args om ⟨K⟩ → @c args om ⟨fun r om' => OmKept om om' ∧ K r om'⟩

/-- A function keeps a contract. -/
structure Ok (P : Program) (f : FuncId) (c : Cn) : Prop where
  mono : Mono c
  run : ∀ args w, (callFunc f args).run P w = .ok (.enter f args) w
  tells : ∀ X om args vs (Q : V → Om → Prop), Good X om → RepL X vs args → cleans args = true → @c args om ⟨Q⟩ → Tells P f X om vs.toArray Q

/-- A function that the machine stands in for keeps a contract. -/
structure OkX (P : Program) (f : FuncId) (c : Cn) : Prop where
  mono : Mono c
  gives : ∀ X om args vs (Q : V → Om → Prop), Good X om → RepL X vs args → cleans args = true → @c args om ⟨Q⟩ → ∃ v r, (callFunc f vs.toArray).run P X.w = .ok (.value v) X.w ∧ Rep X v r ∧ Q r om

def OkE (P : Program) (f : FuncId) (c : Cn) : Prop := Ok P f c ∨ OkX P f c
theorem OkE.mono {P : Program} {f : FuncId} {c : Cn} (h : OkE P f c) : Mono c := h.elim (·.mono) (·.mono)

/-! ### loops that go through a function -/

/-- A world that may be come to from a base. -/
structure Reach (B : Base) (X : Lay) (om : Om) : Prop where
  fn : Grown B.w X.w
  fb : ∀ b, b < B.w.heap.size → B.om b = none → X.w.heap[b]? = B.w.heap[b]?
  fS : ∀ b o, B.S b o → X.S b o
  fo : ∀ id, om id ≠ none → id < B.w.heap.size → B.om id ≠ none

theorem Rel.reach {B : Base} {X : Lay} {own : Nat → Prop} {st : St} {a : Act} (R : Rel B X own st a) : Reach B X st.om := ⟨R.fn, R.fb, R.fS, R.fo⟩
theorem Kept.reach {B : Base} {X : Lay} {om : Om} (R : Kept B X om) : Reach B X om := ⟨R.fn, R.fb, R.fS, R.fo⟩

/-- The fences that are no fence: none, or none in a round. -/
def FW (F : Fence) : Prop := F = Fence.wide ∨ ∃ l, F = Fence.wide.inRound l

theorem FW.fn {F : Fence} (h : FW F) (f : FuncId) : F.fn f := by rcases h with rfl | ⟨l, rfl⟩ <;> trivial
theorem FW.depth {F : Fence} (h : FW F) : F.depth = none := by rcases h with rfl | ⟨l, rfl⟩ <;> rfl
theorem FW.round {F : Fence} (h : FW F) (l : Nat) : F.inRound l = Fence.wide.inRound l := by rcases h with rfl | ⟨l, rfl⟩ <;> rfl
theorem FW.calls {F : Fence} (hF : FW F) {n : Nat} {P : Program} {f : FuncId} {args : Array Value} {w : World} {R : Ending → World → Prop} (h : Calls P f args w R) : CallsIn F n P f args w R := by
  rcases hF with rfl | ⟨l, rfl⟩
  · exact callsIn_wide.2 h
  · exact (callsIn_wide (n := n)).2 h

/-- What a round leaves. -/
def Left (X : Lay) (om : Om) (Q : V → Om → Prop) : Ending → World → Prop := fun e w' => ∃ v Y r om', e = .returned v ∧ Y.w = w' ∧ Q r om' ∧ Rep Y v r ∧ r.clean = true ∧ Kept ⟨X.w, X.S, om, []⟩ Y om'

/-- Whoever asks for a round of a loop is told what the contract says. -/
structure YOk (P : Program) (B : Base) (l : Nat) (c : Cn) : Prop where
  mono : Mono c
  tells : ∀ X om args vs (Q : V → Om → Prop), Reach B X om → Good X om → RepL X vs args → cleans args = true → @c args om ⟨Q⟩ →
    ∃ r : Loop, X.w.heap[l]? = some (.loop r) ∧ vs.length = r.params.size ∧
      ∀ F n, FW F → RoundIn F n P l r.fn ((r.params.zip vs.toArray).foldl (fun tmps (t, a) => tmps.setIfInBounds t a) r.tmps) r.assign r.body X.w (Left X om Q)

theorem YOk.reach {P : Program} {B B' : Base} {l : Nat} {c : Cn} (h : YOk P B l c) (hr : ∀ X om, Reach B' X om → Reach B X om) : YOk P B' l c :=
  ⟨h.mono, fun X om args vs Q r => h.tells X om args vs Q (hr X om r)⟩

/-- A function that is gone through keeps a contract, by what a round does. -/
structure OkR (P : Program) (f : FuncId) (rc : Cn → Cn) : Prop where
  run : ∀ args w, (callFunc f args).run P w = .ok (.enter f args) w
  tells : ∀ l cy X om caps vs (Q : V → Om → Prop), YOk P ⟨X.w, X.S, om, []⟩ l cy → Good X om → RepL X vs caps → cleans caps = true → @rc cy caps om ⟨Q⟩ →
    Tells P f X om (#[.func (.yield l) #[] #[]] ++ vs.toArray) Q
end Go.Proofs.Ytaojebdjkpdcdaa.I
