/- The ideal machine: values as lists and numbers, named local homes, objects; a generator of verification conditions over the model's code. Definitions only. -/
import Derived.Orders
import Derived.Attr
namespace Go.Proofs.Ytaojebdjkpdcdaa.I
open Go

/-- Ideal values. 'u' says nothing of the real one. -/
inductive V where
  | u
  | b (x : Bool)
  | n (k : IntKind) (x : Nat)
  | z (x : Int)
  | s (x : ByteArray)
  | sl (xs : List V)
  | lit (xs : List V)
  | nils
  | agg (cs : List V)
  | tup (vs : List V)
  | fn (f : Fn) (first cap : List V)
  | nilf
  | ifc (t : TypeId) (v : V)
  | nili
  | ref (h m es i off : Nat)
  | pc (cs : List V) (off : Nat)
  | obj (id off : Nat)
  | nilp
  | row (h m len : Nat)
  | arr (p : V) (len : Nat)
  | ow (id off len cap : Nat)
  deriving Inhabited

/-- The cells of a value. -/
def V.cells : V → List V
  | .agg cs => cs
  | v => [v]

/-- The cells of elements. -/
def flat (xs : List V) : List V := xs.flatMap V.cells

def V.isA : V → Bool
  | .agg _ => true
  | _ => false

/-- Are there so many cells from a place on? -/
def hasN : Nat → Nat → List V → Bool
  | 0, 0, _ => true
  | 0, n + 1, _ :: cs => hasN 0 n cs
  | o + 1, n, _ :: cs => hasN o n cs
  | _, _, _ => false

/-- Is it of so many cells, and a struct or an array just if it is to be? -/
def V.fits (size : Nat) (ag : Bool) (v : V) : Bool :=
  match v with
  | .u => false
  | .agg cs => ag && cs.length == size
  | .tup _ => false
  | _ => !ag && size == 1

/-- Are all of one kind, of so many cells? -/
def uni (size : Nat) (ag : Bool) (xs : List V) : Bool := xs.all (V.fits size ag)

/-- What is known of a type. -/
inductive TK where
  | int (k : IntKind)
  | bool
  | slice (e : TypeId)
  | struct (fs : List (Nat × TypeId))
  | array (n : Nat) (e : TypeId)
  | ptr (e : TypeId)
  | string
  | other

structure TI where
  k : TK
  size : Nat
  bytes : Nat
  cn : Bool
  zero : V

def TI.isAgg (t : TI) : Bool :=
  match t.k with
  | .struct _ => true
  | .array _ _ => true
  | _ => false

/-- A home: elements of es cells each; ag: they are structs or arrays; fz: its cells may be seen by others, none is written any more. -/
structure Hm where
  es : Nat
  ag : Bool
  els : List V
  fz : Bool

abbrev Mem := List (Nat × Hm)
abbrev Om := Nat → Option (List V)

structure St where
  env : List V
  mem : Mem
  om : Om

def Mem.get : Mem → Nat → Option Hm
  | [], _ => none
  | (h, H) :: m, k => if k = h then some H else Mem.get m k

def Mem.put : Mem → Nat → Hm → Mem
  | [], k, H => [(k, H)]
  | (h, G) :: m, k, H => if k = h then (h, H) :: m else (h, G) :: Mem.put m k H

def Om.put (om : Om) (id : Nat) (cs : List V) : Om := fun k => if k = id then some cs else om k

inductive Ex where
  | nrm
  | exit (id : Nat)
  | ret

/-- What goes on behind: as an instance's content, so that simp leaves it alone till it is come to. -/
class C (α : Type) : Type where
  k : α → Prop
class C2 (α β : Type) : Type where
  k : α → β → Prop
class P0 : Type where
  p : Prop

/-- A contract: what is asked, and told of each continuation. -/
abbrev Cn := List V → Om → [C2 V Om] → Prop

/-- Orders of a region: one operation is taken first; or whichever of some. -/
inductive Sch where
  | done
  | take (i : Nat) (s : Sch)
  | alt (i : Nat) (s r : Sch)
  | no

/-- sch: of the regions that draw their order: are loads from objects barred; and the tree of orders. ob: the slots of variables that are objects. qs: functions whose calls leave all objects as they are. md: how results are told: 0: made fast; 1: rows of its own too; 2: as they are. y: the loop whose rounds may be asked for, and what they do. rs: functions that are gone through: what they tell by what a round does. -/
structure Cx where
  T : TypeId → Option TI
  cs : List (FuncId × Cn)
  sch : List (Nat × Bool × Sch) := []
  ob : List Nat := []
  qs : List FuncId := []
  md : Nat := 0
  y : Option (Nat × Cn) := none
  rs : List (FuncId × (Cn → Cn)) := []

/-- What objects hold is as it was; there may be more of them. -/
def OmKept (om om' : Om) : Prop := ∀ id cs, om id = some cs → om' id = some cs
theorem OmKept.refl (om : Om) : OmKept om om := fun _ _ h => h
theorem OmKept.trans {a b c : Om} (h : OmKept a b) (g : OmKept b c) : OmKept a c := fun id cs e => g id cs (h id cs e)
@[go_sem] theorem OmKept_self (om : Om) : OmKept om om = True := eq_true (.refl om)
theorem OmKept.put {om om' : Om} {id : Nat} {cs : List V} (h : om id = none) (g : OmKept om om') : OmKept om (om'.put id cs) := fun i ds e => by
  simp only [Om.put]
  split
  · rename_i e'; subst e'; rw [h] at e; cases e
  · exact g i ds e



def lkS : List (Nat × Bool × Sch) → Nat → Option (Bool × Sch)
  | [], _ => none
  | (g, c) :: l, f => if f = g then some c else lkS l f

def lkR : List (FuncId × (Cn → Cn)) → FuncId → Option (Cn → Cn)
  | [], _ => none
  | (g, c) :: l, f => if f = g then some c else lkR l f

def lk : List (FuncId × Cn) → FuncId → Option Cn
  | [], _ => none
  | (g, c) :: l, f => if f = g then some c else lk l f

def V.ofVal : Value → V
  | .bool x => .b x
  | .int .i64 x => .z x
  | .int k x => .n k x.toNat
  | .string x => .s x
  | .slice none 0 0 => .nils
  | .pointer none => .nilp
  | .nilIface => .nili
  | .nilFunc => .nilf
  | _ => .u

def St.opd (st : St) : Operand → V
  | .tmp t => st.env.getD t .u
  | .const v => V.ofVal v
  | .global _ => .u
  | .func f => .fn (.func f) [] []

def St.set (st : St) (dst : Option Tmp) (v : V) : St :=
  match dst with
  | some d => ⟨st.env.set d v, st.mem, st.om⟩
  | none => st

/-- An option's content. -/
def so {α : Type} (x : Option α) [K : C α] : Prop := match x with | some a => K.k a | none => False

/-- Two ways: left by the bit alone till that is known. -/
def spl (x : Bool) [A : P0] [B : P0] : Prop := (x = true → A.p) ∧ (x = false → B.p)
theorem spl_true (A B : P0) : @spl true A B = A.p := by simp [spl]
theorem spl_false (A B : P0) : @spl false A B = B.p := by simp [spl]
theorem spl_decide (p : Prop) [Decidable p] (A B : P0) : @spl (decide p) A B = ((p → A.p) ∧ (¬p → B.p)) := by simp [spl]
theorem spl_not (x : Bool) (A B : P0) : @spl (!x) A B = @spl x B A := by cases x <;> simp [spl]

/-! ### operators -/

def i64ok (x : Int) : Prop := -9223372036854775808 ≤ x ∧ x ≤ 9223372036854775807

def pw (k : IntKind) : Nat := 2 ^ k.bits

def TK.isSl : TK → Bool
  | .slice _ => true
  | _ => false

/-- An operator on two values: the conditions, and the value. -/
def bin (op : BinOp) (t : TK) (x y : V) [K : C V] : Prop :=
  match op, x, y with
  | .add, .z a, .z b => i64ok (a + b) ∧ K.k (.z (a + b))
  | .sub, .z a, .z b => i64ok (a - b) ∧ K.k (.z (a - b))
  | .mul, .z a, .z b => i64ok (a * b) ∧ K.k (.z (a * b))
  | .quo, .z a, .z b => (0 ≤ a ∧ 0 < b) ∧ K.k (.z (a / b))
  | .rem, .z a, .z b => (0 ≤ a ∧ 0 < b) ∧ K.k (.z (a % b))
  | .eql, .z a, .z b => K.k (.b (decide (a = b)))
  | .neq, .z a, .z b => K.k (.b (!decide (a = b)))
  | .lss, .z a, .z b => K.k (.b (decide (a < b)))
  | .leq, .z a, .z b => K.k (.b (decide (a ≤ b)))
  | .gtr, .z a, .z b => K.k (.b (decide (b < a)))
  | .geq, .z a, .z b => K.k (.b (decide (b ≤ a)))
  | .add, .n k a, .n k' b => k = k' ∧ K.k (.n k ((a + b) % pw k))
  | .sub, .n k a, .n k' b => k = k' ∧ K.k (.n k ((a + pw k - b) % pw k))
  | .mul, .n k a, .n k' b => k = k' ∧ K.k (.n k (a * b % pw k))
  | .quo, .n k a, .n k' b => k = k' ∧ b ≠ 0 ∧ K.k (.n k (a / b))
  | .rem, .n k a, .n k' b => k = k' ∧ b ≠ 0 ∧ K.k (.n k (a % b))
  | .and, .n k a, .n k' b => k = k' ∧ K.k (.n k (a &&& b))
  | .or, .n k a, .n k' b => k = k' ∧ K.k (.n k (a ||| b))
  | .xor, .n k a, .n k' b => k = k' ∧ K.k (.n k (a ^^^ b))
  | .eql, .n k a, .n k' b => k = k' ∧ K.k (.b (decide (a = b)))
  | .neq, .n k a, .n k' b => k = k' ∧ K.k (.b (!decide (a = b)))
  | .lss, .n k a, .n k' b => k = k' ∧ K.k (.b (decide (a < b)))
  | .leq, .n k a, .n k' b => k = k' ∧ K.k (.b (decide (a ≤ b)))
  | .gtr, .n k a, .n k' b => k = k' ∧ K.k (.b (decide (b < a)))
  | .geq, .n k a, .n k' b => k = k' ∧ K.k (.b (decide (b ≤ a)))
  | .shl, .n k a, .z b => 0 ≤ b ∧ K.k (.n k ((a <<< b.toNat) % pw k))
  | .shr, .n k a, .z b => 0 ≤ b ∧ K.k (.n k (a >>> b.toNat))
  | .shl, .n k a, .n _ b => K.k (.n k ((a <<< b) % pw k))
  | .shr, .n k a, .n _ b => K.k (.n k (a >>> b))
  | .eql, .b x, .b y => t = .bool ∧ K.k (.b (x == y))
  | .neq, .b x, .b y => t = .bool ∧ K.k (.b (x != y))
  | .eql, .sl xs, .nils => t.isSl = true ∧ (xs = [] → K.k (.b true)) ∧ K.k (.b false)
  | .neq, .sl xs, .nils => t.isSl = true ∧ (xs = [] → K.k (.b false)) ∧ K.k (.b true)
  | .eql, .lit _, .nils => t.isSl = true ∧ K.k (.b false)
  | .neq, .lit _, .nils => t.isSl = true ∧ K.k (.b true)
  | .eql, .nils, .nils => t.isSl = true ∧ K.k (.b true)
  | .neq, .nils, .nils => t.isSl = true ∧ K.k (.b false)
  | .eql, .row _ _ len, .nils => t.isSl = true ∧ (len = 0 → K.k (.b true)) ∧ K.k (.b false)
  | .neq, .row _ _ len, .nils => t.isSl = true ∧ (len = 0 → K.k (.b false)) ∧ K.k (.b true)
  | .eql, .ow .., .nils => t.isSl = true ∧ K.k (.b false)
  | .neq, .ow .., .nils => t.isSl = true ∧ K.k (.b true)
  | _, _, _ => False

def un (op : UnOp) (x : V) [K : C V] : Prop :=
  match op, x with
  | .not, .b x => K.k (.b (!x))
  | .neg, .n k a => K.k (.n k ((pw k - a) % pw k))
  | .neg, .z a => i64ok (-a) ∧ K.k (.z (-a))
  | _, _ => False

def conv (d : TK) (x : V) [K : C V] : Prop :=
  match d, x with
  | .int .i64, .z a => K.k (.z a)
  | .int .i64, .n _ a => a < 9223372036854775808 ∧ K.k (.z a)
  | .int k, .z a => k.signed = false ∧ K.k (.n k (a % (pw k : Int)).toNat)
  | .int k, .n _ a => k.signed = false ∧ K.k (.n k (a % pw k))
  | _, _ => False

/-- The contents of what can be read as a list. -/
def rd (m : Mem) (om : Om) (x : V) [K : C (List V)] : Prop :=
  match x with
  | .sl xs => K.k xs
  | .lit xs => K.k xs
  | .nils => K.k []
  | .row h n len => @so _ (m.get h) ⟨fun H => H.els.length = n ∧ K.k (H.els.take len)⟩
  | .ow id off len _ => @so _ (om id) ⟨fun cs => (off + len ≤ cs.length ∧ uni 1 false ((cs.drop off).take len) = true) ∧ K.k ((cs.drop off).take len)⟩
  | _ => False

def TK.isStr : TK → Bool
  | .string => true
  | _ => false

def lenV (t : TK) (x : V) [K : C Nat] : Prop :=
  match x with
  | .sl xs => t.isSl = true ∧ K.k xs.length
  | .lit xs => t.isSl = true ∧ K.k xs.length
  | .nils => t.isSl = true ∧ K.k 0
  | .row _ _ len => t.isSl = true ∧ K.k len
  | .arr _ len => t.isSl = true ∧ K.k len
  | .ow _ _ len _ => t.isSl = true ∧ K.k len
  | .s x => t.isStr = true ∧ K.k x.size
  | _ => False

mutual
/-- A value that others may have: no local home is in it. -/
def V.clean : V → Bool
  | .ref .. => false
  | .row .. => false
  | .arr p _ => V.clean p
  | .agg cs => cleans cs
  | .tup cs => cleans cs
  | .fn _ a c => cleans a && cleans c
  | .ifc _ v => V.clean v
  | _ => true
def cleans : List V → Bool
  | [] => true
  | v :: vs => V.clean v && cleans vs
end

/-- The largest length. -/
def longest : Nat := 9223372036854775807

mutual
/-- All numbers in it are in their kind's range. -/
def V.wf : V → Prop
  | .n k x => x < 2 ^ k.bits
  | .z x => i64ok x
  | .s x => x.size ≤ longest
  | .sl xs => xs.length ≤ longest ∧ wfs xs
  | .lit xs => xs.length ≤ longest ∧ wfs xs
  | .agg cs => wfs cs
  | .tup cs => wfs cs
  | .ifc _ v => V.wf v
  | .fn _ a c => wfs a ∧ wfs c
  | .pc cs _ => wfs cs
  | .ow _ _ len cap => len ≤ cap ∧ cap ≤ longest
  | _ => True
def wfs : List V → Prop
  | [] => True
  | v :: vs => V.wf v ∧ wfs vs
end

/-! ### one operation that is no call -/
section
variable (cx : Cx)

def ti (t : TypeId) [K : C TI] : Prop := @so _ (cx.T t) K

def part (i : TI) (cs : List V) (off : Nat) [K : C V] : Prop :=
  hasN off i.size cs = true ∧ match i.isAgg with
  | true => K.k (.agg ((cs.drop off).take i.size))
  | false => K.k (cs.getD off .u)

def fieldOf (t : TypeId) (f : Nat) [K : C2 Nat TypeId] : Prop :=
  @ti cx t ⟨fun i => match i.k with
    | .struct fs => @so _ fs[f]? ⟨fun p => K.k p.1 p.2⟩
    | _ => False⟩

/-- an address, so many cells on -/
def addr (x : V) (d : Nat) [K : C V] : Prop :=
  match x with
  | .ref h m es i o => K.k (.ref h m es i (o + d))
  | .pc cs o => K.k (.pc cs (o + d))
  | .obj id o => K.k (.obj id (o + d))
  | _ => False

def fieldAddr (t : TypeId) (x : V) (f : Nat) [K : C V] : Prop :=
  @fieldOf cx t f ⟨fun off _ => @addr x off K⟩

def indexAddr (m : Mem) (t : TypeId) (x ix : V) [K : C V] : Prop :=
  @ti cx t ⟨fun i => match i.k, ix with
    | .slice e, .z a => @ti cx e ⟨fun ei => match x with
      | .sl xs => ((0 ≤ a ∧ a < xs.length) ∧ (xs.getD a.toNat ei.zero).cells.length = ei.size) ∧ K.k (.pc (xs.getD a.toNat ei.zero).cells 0)
      | .lit xs => ((0 ≤ a ∧ a < xs.length) ∧ (xs.getD a.toNat ei.zero).cells.length = ei.size) ∧ K.k (.pc (xs.getD a.toNat ei.zero).cells 0)
      | .row h n len => @so _ (m.get h) ⟨fun H => (H.els.length = n ∧ H.es = ei.size ∧ (0 ≤ a ∧ a < len)) ∧ K.k (.ref h n ei.size a.toNat 0)⟩
      | .arr p len => ei.size = 1 ∧ (0 ≤ a ∧ a < len) ∧ @addr p a.toNat K
      | .ow id off len _ => (0 ≤ a ∧ a < len) ∧ K.k (.obj id (off + a.toNat * ei.size))
      | _ => False⟩
    | .array n e, .z a => @ti cx e ⟨fun ei => (0 ≤ a ∧ a < n) ∧ @addr x (a.toNat * ei.size) K⟩
    | _, _ => False⟩

/-- a byte of a string -/
def byteAt (s : ByteArray) (i : Nat) : Nat := (s.data.getD i 0).toNat

def indexV (t : TypeId) (x ix : V) [K : C V] : Prop :=
  @ti cx t ⟨fun i => match i.k, x, ix with
    | .array n e, .agg cs, .z a => @ti cx e ⟨fun ei => (0 ≤ a ∧ a < n) ∧ @part ei cs (a.toNat * ei.size) K⟩
    | .string, .s s, .z a => (0 ≤ a ∧ a < s.size) ∧ K.k (.n .u8 (byteAt s a.toNat))
    | .string, .s s, .n _ a => a < s.size ∧ K.k (.n .u8 (byteAt s a))
    | _, _, _ => False⟩

/-- what lies in an element of a home -/
def elemGet (i : TI) (H : Hm) (j o : Nat) [K : C V] : Prop :=
  match H.ag with
  | true => @part i (H.els.getD j .u).cells o K
  | false => (o = 0 ∧ i.isAgg = false) ∧ K.k (H.els.getD j i.zero)

def load (st : St) (t : TypeId) (x : V) [K : C V] : Prop :=
  @ti cx t ⟨fun i => match x with
    | .pc cs o => @part i cs o K
    | .ref h m es j o => @so _ (st.mem.get h) ⟨fun H => (H.els.length = m ∧ j < m ∧ H.es = es) ∧ @elemGet i H j o K⟩
    | .obj id o => @so _ (st.om id) ⟨fun cs => @part i cs o K⟩
    | _ => False⟩

/-- cells with some of them set -/
def splice (cs : List V) (off : Nat) (vs : List V) : List V := cs.take off ++ vs ++ cs.drop (off + vs.length)

/-- an element of a home with some of it set -/
def elemSet (H : Hm) (j o : Nat) (v : V) : Hm :=
  match H.ag with
  | true => ⟨H.es, H.ag, H.els.set j (.agg (splice (H.els.getD j .u).cells o v.cells)), H.fz⟩
  | false => ⟨H.es, H.ag, H.els.set j v, H.fz⟩

def canSet (i : TI) (H : Hm) (j o : Nat) : Bool :=
  match H.ag with
  | true => hasN o i.size (H.els.getD j .u).cells
  | false => !i.isAgg && o == 0

/-- what becomes of a value, where others may have it -/
def give1 (st : St) (x : V) [K : C2 St V] : Prop :=
  match x with
  | .row h n len => @so _ (st.mem.get h) ⟨fun H => (H.els.length = n ∧ cleans H.els = true) ∧ K.k ⟨st.env, st.mem.put h ⟨H.es, H.ag, H.els, true⟩, st.om⟩ (.sl (H.els.take len))⟩
  | .nils => K.k st (.sl [])
  | .lit xs => K.k st (.sl xs)
  | v => v.clean = true ∧ K.k st v

def gives1 (st : St) : List V → [C2 St (List V)] → Prop
  | [], K => K.k st []
  | x :: xs, K => @give1 st x ⟨fun st y => @gives1 st xs ⟨fun st ys => K.k st (y :: ys)⟩⟩

/-- A value handed on: what is still being made is told as a list. -/
def give (st : St) (x : V) [K : C2 St V] : Prop :=
  match x with
  | .agg cs => @gives1 st cs ⟨fun st ys => K.k st (.agg ys)⟩
  | v => @give1 st v K

def isOb (dst : Option Tmp) : Bool := match dst with | some d => cx.ob.contains d | none => false

/-- a new object at a slot -/
def thing (st : St) (dst : Option Tmp) (x : V) [K : C St] : Prop :=
  @give st x ⟨fun st y => @so _ dst ⟨fun d => ∀ id, st.om id = none → K.k ⟨st.env.set d (.obj id 0), st.mem, st.om.put id y.cells⟩⟩⟩

def store (st : St) (t : TypeId) (x v : V) [K : C St] : Prop :=
  @ti cx t ⟨fun i => v.fits i.size i.isAgg = true ∧ match x with
    | .ref h m es j o => @so _ (st.mem.get h) ⟨fun H => (H.fz = false ∧ H.els.length = m ∧ j < m ∧ H.es = es ∧ canSet i H j o = true) ∧
        K.k ⟨st.env, st.mem.put h (elemSet H j o v), st.om⟩⟩
    | .obj id o => @so _ (st.om id) ⟨fun cs => hasN o i.size cs = true ∧ @give st v ⟨fun st y => K.k ⟨st.env, st.mem, st.om.put id (splice cs o y.cells)⟩⟩⟩
    | _ => False⟩

/-- a bound of a slice expression, or what stands for none -/
def bnd (x : Option V) (d : Int) [K : C Int] : Prop :=
  match x with
  | none => K.k d
  | some (.z a) => K.k a
  | _ => False

def sliceS (ei : TI) (x : V) (lo hi : Option V) [K : C V] : Prop :=
  match x with
  | .sl xs => @bnd lo 0 ⟨fun a => @bnd hi xs.length ⟨fun b => ((0 ≤ a ∧ a ≤ b ∧ b ≤ xs.length) ∧ uni ei.size ei.isAgg xs = true) ∧ K.k (.sl ((xs.take b.toNat).drop a.toNat))⟩⟩
  | .lit xs => @bnd lo 0 ⟨fun a => @bnd hi xs.length ⟨fun b => ((0 ≤ a ∧ a ≤ b ∧ b ≤ xs.length) ∧ uni ei.size ei.isAgg xs = true) ∧ K.k (.sl ((xs.take b.toNat).drop a.toNat))⟩⟩
  | .row h n len => @bnd lo 0 ⟨fun a => @bnd hi len ⟨fun b => (a = 0 ∧ 0 ≤ b ∧ b ≤ len) ∧ K.k (.row h n b.toNat)⟩⟩
  | .arr p len => @bnd lo 0 ⟨fun a => @bnd hi len ⟨fun b => (ei.size = 1 ∧ 0 ≤ a ∧ a ≤ b ∧ b ≤ len) ∧ @addr p a.toNat ⟨fun q => K.k (.arr q (b - a).toNat)⟩⟩⟩
  | .ow id off len cap => @bnd lo 0 ⟨fun a => @bnd hi len ⟨fun b => (0 ≤ a ∧ a ≤ b ∧ b ≤ cap) ∧ K.k (.ow id (off + a.toNat * ei.size) (b - a).toNat (cap - a.toNat))⟩⟩
  | _ => False

def most : Nat := 1099511627776

/-- Bytes that a row may have where it grows. -/
def bmost : Nat := 140737488355328

def slice (t : TypeId) (x : V) (lo hi mx : Option V) [K : C V] : Prop :=
  @ti cx t ⟨fun i => match i.k with
    | .slice e => mx.isNone = true ∧ @ti cx e ⟨fun ei => @sliceS ei x lo hi K⟩
    | .array n e => @ti cx e ⟨fun ei => @bnd lo 0 ⟨fun a => @bnd hi n ⟨fun b => @bnd mx n ⟨fun c =>
        (ei.size = 1 ∧ 0 ≤ a ∧ a ≤ b ∧ b ≤ c ∧ c ≤ n ∧ (mx.isSome = true → hi.isSome = true) ∧ n ≤ most) ∧ @addr x a.toNat ⟨fun q => K.k (.arr q (b - a).toNat)⟩⟩⟩⟩⟩
    | _ => False⟩

def fill (zs : List V) : List (Nat × V) → List V
  | [] => zs
  | (off, v) :: l => fill (splice zs off v.cells) l

/-- where the parts of a struct go -/
def placeS (fs : List (Nat × TypeId)) (zs : List V) : List (Nat × V) → [C (List (Nat × V))] → Prop
  | [], K => K.k []
  | (j, v) :: l, K => @so _ fs[j]? ⟨fun p => @ti cx p.2 ⟨fun fi => (v.fits fi.size fi.isAgg = true ∧ hasN p.1 fi.size zs = true) ∧ @placeS fs zs l ⟨fun r => K.k ((p.1, v) :: r)⟩⟩⟩

/-- and of an array -/
def placeA (ei : TI) (zs : List V) : List (Nat × V) → [C (List (Nat × V))] → Prop
  | [], K => K.k []
  | (j, v) :: l, K => (v.fits ei.size ei.isAgg = true ∧ hasN (j * ei.size) ei.size zs = true) ∧ @placeA ei zs l ⟨fun r => K.k ((j * ei.size, v) :: r)⟩

def build (t : TypeId) (parts : List (Nat × V)) [K : C V] : Prop :=
  @ti cx t ⟨fun i => match i.k with
    | .struct fs => @placeS cx fs i.zero.cells parts ⟨fun ps => K.k (.agg (fill i.zero.cells ps))⟩
    | .array _ e => @ti cx e ⟨fun ei => @placeA ei i.zero.cells parts ⟨fun ps => K.k (.agg (fill i.zero.cells ps))⟩⟩
    | _ => False⟩

def buildElems (l : List V) : List (Nat × V) → List V
  | [] => l
  | (j, v) :: ps => buildElems (l.set j v) ps

/-- a new home at a slot -/
def home (st : St) (dst : Option Tmp) (es : Nat) (ag : Bool) (els : List V) (fz : Bool) (v : Nat → V) [K : C St] : Prop :=
  @so _ dst ⟨fun d => st.mem.get d = none ∧ K.k ⟨st.env.set d (v d), (d, ⟨es, ag, els, fz⟩) :: st.mem, st.om⟩⟩

def nilCheck (x : V) [K : C V] : Prop :=
  match x with
  | .ref h m es i o => K.k (.ref h m es i o)
  | .pc cs o => K.k (.pc cs o)
  | .obj id o => K.k (.obj id o)
  | _ => False

def pickB (c : V) [A : P0] [B : P0] : Prop :=
  match c with
  | .b x => @spl x A B
  | _ => False

def opds (st : St) (l : List (Nat × Operand)) : List (Nat × V) := l.map fun p => (p.1, st.opd p.2)

/-- What an operation that is no call leaves. -/
def ex1 (st : St) (dst : Option Tmp) (op : Op) [K : C St] : Prop :=
  match op with
  | .move x => K.k (st.set dst (st.opd x))
  | .assign x => K.k (st.set dst (st.opd x))
  | .pick c a b => @pickB (st.opd c) ⟨K.k (st.set dst (st.opd a))⟩ ⟨K.k (st.set dst (st.opd b))⟩
  | .alloc e => @ti cx e ⟨fun i => match isOb cx dst with
    | true => @thing st dst i.zero K
    | false => @home st dst i.size i.isAgg [i.zero] false (fun d => .ref d 1 i.size 0 0) K⟩
  | .box e x => @ti cx e ⟨fun i => (st.opd x).fits i.size i.isAgg = true ∧ match isOb cx dst with
    | true => @thing st dst (st.opd x) K
    | false => @home st dst i.size i.isAgg [st.opd x] false (fun d => .ref d 1 i.size 0 0) K⟩
  | .build t ps => @build cx t (opds st ps.toList) ⟨fun v => K.k (st.set dst v)⟩
  | .load t a => @load cx st t (st.opd a) ⟨fun v => K.k (st.set dst v)⟩
  | .store t a x => @store cx st t (st.opd a) (st.opd x) ⟨fun s => K.k (s.set dst .u)⟩
  | .nilCheck x => @nilCheck (st.opd x) ⟨fun v => K.k (st.set dst v)⟩
  | .binOp op t x y _ => @ti cx t ⟨fun i => @bin op i.k (st.opd x) (st.opd y) ⟨fun v => K.k (st.set dst v)⟩⟩
  | .unOp op _ x => @un op (st.opd x) ⟨fun v => K.k (st.set dst v)⟩
  | .convert t d x => @ti cx t ⟨fun _ => @ti cx d ⟨fun di => @conv di.k (st.opd x) ⟨fun v => K.k (st.set dst v)⟩⟩⟩
  | .makeInterface t x => @ti cx t ⟨fun i => i.cn = true ∧ K.k (st.set dst (.ifc t (st.opd x)))⟩
  | .makeFunc f fs cs => K.k (st.set dst (.fn f (fs.toList.map st.opd) (cs.toList.map st.opd)))
  | .makeSlice t l c => @ti cx t ⟨fun i => match i.k, st.opd l, st.opd c with
      | .slice e, .z a, .z b => @ti cx e ⟨fun ei => (0 ≤ a ∧ a ≤ b ∧ b ≤ most ∧ ei.bytes ≤ 64) ∧
          match isOb cx dst with
          | true => @so _ dst ⟨fun d => ∀ id, st.om id = none → K.k ⟨st.env.set d (.ow id 0 a.toNat b.toNat), st.mem, st.om.put id (flat (List.replicate b.toNat ei.zero))⟩⟩
          | false => @home st dst ei.size ei.isAgg (List.replicate a.toNat ei.zero) false (fun d => .row d a.toNat a.toNat) K⟩
      | _, _, _ => False⟩
  | .slice t x lo hi mx => @slice cx t (st.opd x) (lo.map st.opd) (hi.map st.opd) (mx.map st.opd) ⟨fun v => K.k (st.set dst v)⟩
  | .fieldAddr t x f => @fieldAddr cx t (st.opd x) f ⟨fun v => K.k (st.set dst v)⟩
  | .field t x f => @fieldOf cx t f ⟨fun off ft => @ti cx ft ⟨fun fi => match st.opd x with
      | .agg cs => @part fi cs off ⟨fun v => K.k (st.set dst v)⟩
      | _ => False⟩⟩
  | .indexAddr t x ix => @indexAddr cx st.mem t (st.opd x) (st.opd ix) ⟨fun v => K.k (st.set dst v)⟩
  | .index t x ix => @indexV cx t (st.opd x) (st.opd ix) ⟨fun v => K.k (st.set dst v)⟩
  | .extract x i => match st.opd x with
      | .tup vs => @so _ vs[i]? ⟨fun v => K.k (st.set dst v)⟩
      | _ => False
  | _ => False

def gives (st : St) : List V → [C2 St (List V)] → Prop
  | [], K => K.k st []
  | x :: xs, K => @give st x ⟨fun st y => @gives st xs ⟨fun st ys => K.k st (y :: ys)⟩⟩

def call (st : St) (dst : Option Tmp) (f : FuncId) (args : List V) [K : C St] : Prop :=
  @gives st args ⟨fun st args => @so _ (lk cx.cs f) ⟨fun c => @c args st.om ⟨fun r om => r.wf → K.k ((⟨st.env, st.mem, om⟩ : St).set dst r)⟩⟩⟩

/-- elements at a new place of their own -/
def fresh (st : St) (dst : Option Tmp) (ei : TI) (xs : List V) [K : C St] : Prop :=
  (cleans xs = true ∧ xs.length * ei.bytes ≤ bmost) ∧ @so _ dst ⟨fun d => ∀ id, st.om id = none → ∀ cap, xs.length ≤ cap → cap ≤ longest →
    K.k ⟨st.env.set d (.ow id 0 xs.length cap), st.mem, st.om.put id (flat (xs ++ List.replicate (cap - xs.length) ei.zero))⟩⟩

def append (st : St) (dst : Option Tmp) (t : TypeId) (x y : V) [K : C St] : Prop :=
  @ti cx t ⟨fun i => match i.k with
    | .slice e => @ti cx e ⟨fun ei => @rd st.mem st.om y ⟨fun ys => (uni ei.size ei.isAgg ys = true ∧ 1 ≤ ei.bytes ∧ ei.bytes ≤ 64) ∧ match x with
      | .nils => match isOb cx dst with
        | true => (ys = [] → K.k (st.set dst .nils)) ∧ (0 < ys.length → @fresh st dst ei ys K)
        | false => ys.length * ei.bytes ≤ bmost ∧ @home st dst ei.size ei.isAgg ys false (fun d => .row d ys.length ys.length) K
      | .lit xs => match isOb cx dst with
        | true => uni ei.size ei.isAgg xs = true ∧ (ys = [] → K.k (st.set dst (.lit xs))) ∧ (0 < ys.length → @fresh st dst ei (xs ++ ys) K)
        | false => ((xs ++ ys).length * ei.bytes ≤ bmost ∧ uni ei.size ei.isAgg xs = true) ∧ @home st dst ei.size ei.isAgg (xs ++ ys) (!xs.isEmpty) (fun d => .row d (xs ++ ys).length (xs ++ ys).length) K
      | .row h n len => @so _ (st.mem.get h) ⟨fun H => (H.els.length = n ∧ len = n ∧ H.es = ei.size ∧ H.ag = ei.isAgg ∧ (n + ys.length) * ei.bytes ≤ bmost) ∧
          K.k ((⟨st.env, st.mem.put h ⟨H.es, H.ag, H.els ++ ys, H.fz⟩, st.om⟩ : St).set dst (.row h (n + ys.length) (n + ys.length)))⟩
      | .ow id off len cap => @so _ (st.om id) ⟨fun cs => (cleans ys = true ∧ len ≤ cap ∧ off + cap * ei.size ≤ cs.length ∧ (len + ys.length) * ei.bytes ≤ bmost) ∧
          (len + ys.length ≤ cap → K.k ((⟨st.env, st.mem, st.om.put id (splice cs (off + len * ei.size) (flat ys))⟩ : St).set dst (.ow id off (len + ys.length) cap))) ∧
          (cap < len + ys.length → @so _ dst ⟨fun d => ∀ id', st.om id' = none → ∀ cap', len + ys.length ≤ cap' → cap' ≤ longest →
            K.k ⟨st.env.set d (.ow id' 0 (len + ys.length) cap'), st.mem, st.om.put id' ((cs.drop off).take (len * ei.size) ++ flat ys ++ flat (List.replicate (cap' - (len + ys.length)) ei.zero))⟩⟩)⟩
      | _ => False⟩⟩
    | _ => False⟩

def foldMx (mx : Bool) : V → List V → Option V
  | .z a, [] => some (.z a)
  | .z a, .z b :: l => foldMx mx (.z (if mx then max a b else min a b)) l
  | .n k a, [] => some (.n k a)
  | .n k a, .n k' b :: l => if k = k' then foldMx mx (.n k (if mx then max a b else min a b)) l else none
  | _, _ => none

/-- A call. -/
def exCall (st : St) (dst : Option Tmp) (c : Callee) (args : List V) (tys : List TypeId) [K : C St] : Prop :=
  match c with
  | .value f => match st.opd f with
    | .fn (.func f) a b => @call cx st dst f (a ++ args ++ b) K
    | .fn (.yield l) [] [] => @so _ cx.y ⟨fun p => l = p.1 ∧ @gives st args ⟨fun st args => @p.2 args st.om ⟨fun r om => r.wf → K.k ((⟨st.env, st.mem, om⟩ : St).set dst r)⟩⟩⟩
    | _ => False
  | .builtin .len => match args, tys with
    | [x], [t] => @ti cx t ⟨fun i => @lenV i.k x ⟨fun n => K.k (st.set dst (.z n))⟩⟩
    | _, _ => False
  | .builtin .append => match args, tys with
    | [x, y], [t, u] => @ti cx u ⟨fun ui => ui.k.isSl = true ∧ @append cx st dst t x y K⟩
    | _, _ => False
  | .builtin .max => match args with
    | x :: l => @so _ (foldMx true x l) ⟨fun v => K.k (st.set dst v)⟩
    | _ => False
  | .builtin .min => match args with
    | x :: l => @so _ (foldMx false x l) ⟨fun v => K.k (st.set dst v)⟩
    | _ => False
  | _ => False

/-- One operation. -/
def ex (st : St) (dst : Option Tmp) (op : Op) [K : C St] : Prop :=
  match op with
  | .call c => @exCall cx st dst c.callee (c.args.toList.map st.opd) c.argTypes.toList K
  | .buildSlice t len ps => @ti cx t ⟨fun i => match i.k with
      | .slice e => @ti cx e ⟨fun ei => @gives st (ps.toList.map fun p => st.opd p.2) ⟨fun st vs => (uni ei.size ei.isAgg vs = true ∧ (ps.toList.all fun p => p.1 < len) = true ∧ len * ei.size ≤ 16777216 ∧ len ≤ most) ∧
          K.k (st.set dst (.lit (buildElems (List.replicate len ei.zero) ((ps.toList.map (·.1)).zip vs))))⟩⟩
      | _ => False⟩
  | op => @ex1 cx st dst op K

/-- A guarded operation: where the guard isn't known, both ways are gone, and it is known from then on. -/
def guarded (st : St) (d : Tmp) (x : V) (w : Bool) [Y : C St] [N : C St] : Prop :=
  match x with
  | .b x => match w with
    | true => @spl x ⟨Y.k (st.set (some d) (.b true))⟩ ⟨N.k (st.set (some d) (.b false))⟩
    | false => @spl x ⟨N.k (st.set (some d) (.b true))⟩ ⟨Y.k (st.set (some d) (.b false))⟩
  | .tup _ => N.k st
  | _ => False

/-- Operations one behind the other. ds: the slots that the region's operations write (for the guards). -/
def exs (ds : List (Option Tmp)) : List Oper → St → [C St] → Prop
  | [], st, K => K.k st
  | o :: l, st, K => match o.guard with
    | none => @ex cx st o.dst o.op ⟨fun st => @exs ds l st K⟩
    | some (j, w) => @so _ (ds.getD j none) ⟨fun d => @guarded st d (st.env.getD d .u) w
        ⟨fun st => @ex cx st o.dst o.op ⟨fun st => @exs ds l st K⟩⟩ ⟨fun st => @exs ds l (st.set o.dst (.tup [])) K⟩⟩

def notObj : V → Prop
  | .obj _ _ => False
  | _ => True

def notOw (st : St) (c : Callee) (args : List V) : Prop :=
  match c, args with
  | .value f, _ => match st.opd f with
    | .fn (.yield _) _ _ => False
    | _ => True
  | _, _ => True

/-- In a region that draws its order and has calls, no load is from an object. -/
def seen (fl : Bool) (st : St) (op : Op) : Prop :=
  match fl, op with
  | true, .load _ a => notObj (st.opd a)
  | _, .call c => notOw st c.callee (c.args.toList.map st.opd)
  | _, _ => True

def exR (fl : Bool) (st : St) (dst : Option Tmp) (op : Op) [K : C St] : Prop :=
  seen fl st op ∧ @ex cx st dst op K

/-- One operation, with its guard. -/
def exG (fl : Bool) (ops : List Oper) (o : Oper) (st : St) [K : C St] : Prop :=
  match o.guard with
  | none => @exR cx fl st o.dst o.op K
  | some (j, w) => @so _ ((ops.map (·.dst)).getD j none) ⟨fun d => @guarded st d (st.env.getD d .u) w ⟨fun st => @exR cx fl st o.dst o.op K⟩ ⟨fun st => K.k (st.set o.dst (.tup []))⟩⟩

def exT (fl : Bool) (ops : List Oper) : Sch → St → [C St] → Prop
  | .done, st, K => K.k st
  | .take i n, st, K => @so _ ops[i]? ⟨fun o => @exG cx fl ops o st ⟨fun st => @exT fl ops n st K⟩⟩
  | .alt i n r, st, K => @so _ ops[i]? ⟨fun o => @exG cx fl ops o st ⟨fun st => @exT fl ops n st K⟩⟩ ∧ @exT fl ops r st K
  | .no, _, _ => True

def leV (m : Mem) (a c : V) : Prop :=
  match c with
  | .u => True
  | .row h n len => a = .row h n len ∨ ((n = 0 ∧ len = 0) ∧ m.get h = none ∧ (a = .nils ∨ a = .lit []))
  | .sl xs => a = .sl xs ∨ a = .lit xs ∨ (xs = [] ∧ a = .nils)
  | c => a = c

/-- One state says no more than another one; what is empty may be told as a home that is. -/
def leE (m : Mem) : List V → List V → Prop
  | [], [] => True
  | a :: as, c :: cs => leV m a c ∧ leE m as cs
  | _, _ => False

def leM (m : Mem) : Mem → Prop
  | [] => True
  | (h, H) :: l => (m.get h = some H ∨ (m.get h = none ∧ H.els = [])) ∧ leM m l

mutual
/-- All local homes in it are among these. -/
def V.within (hs : List Nat) : V → Bool
  | .ref h _ _ _ _ => hs.contains h
  | .row h _ _ => hs.contains h
  | .arr p _ => V.within hs p
  | .agg cs => withins hs cs
  | .tup cs => withins hs cs
  | .fn _ a c => withins hs a && withins hs c
  | .ifc _ v => V.within hs v
  | _ => true
def withins (hs : List Nat) : List V → Bool
  | [] => true
  | v :: vs => V.within hs v && withins hs vs
end

def withinM (hs : List Nat) : Mem → Bool
  | [] => true
  | (_, H) :: m => withins hs H.els && withinM hs m

def St.le (s t : St) : Prop := leE s.mem s.env t.env ∧ leM s.mem t.mem ∧ OmKept t.om s.om ∧ withins (t.mem.map (·.1)) t.env = true ∧ withinM (t.mem.map (·.1)) t.mem = true

/-- A loop: what holds at each round's head (E x, where c x), and goes down. -/
def loopR (st : St) [R : C2 St (C2 Ex St)] [Q : C2 Ex St] : Prop :=
  ∃ (σ : Type) (E : σ → St) (c : σ → Prop) (μ : σ → Nat), (∃ x, c x ∧ st.le (E x)) ∧
    ∀ x, c x → R.k (E x) ⟨fun | .nrm, s => ∃ y, c y ∧ s.le (E y) ∧ μ y < μ x | e, s => Q.k e s⟩

def condB (x : V) [A : P0] [B : P0] : Prop :=
  match x with
  | .b t => @spl t A B
  | _ => False

/-- What a round may know of the slots: nothing of the call's own homes. -/
def clear1 (v : V) : V := match v.clean with | true => v | false => .u
def fillIn (env : List V) : List Tmp → List V → List V
  | t :: ts, v :: vs => fillIn (env.set t v) ts vs
  | _, _ => env

/-- A loop that goes through a function: what is left of it is told by what a round does (cy). -/
def rangeR (st : St) (g : V) (ps : List Tmp) [A : C2 St (C2 Ex St)] [R : C2 St (C2 Ex St)] [Q : C2 Ex St] : Prop :=
  match g with
  | .fn (.func f) [] caps => cleans caps = true ∧ @so _ (lkR cx.rs f) ⟨fun rc => ∃ cy : Cn,
      (∀ args om K, wfs args → @cy args om ⟨K⟩ → args.length = ps.length ∧
        A.k ⟨fillIn (st.env.map clear1) ps args, [], om⟩ ⟨fun | .nrm, st => R.k ⟨st.env.map clear1, [], st.om⟩ ⟨fun | .nrm, st => ∃ om', OmKept om' st.om ∧ K (.b true) om' | _, _ => False⟩ | _, _ => False⟩) ∧
      (∀ args om (K K' : V → Om → Prop), (∀ r om, K r om → K' r om) → @cy args om ⟨K⟩ → @cy args om ⟨K'⟩) ∧
      @rc cy caps st.om ⟨fun _ om => Q.k .nrm ⟨st.env.map clear1, [], om⟩⟩⟩
  | _ => False

def wpc : Code → St → [C2 Ex St] → Prop
  | .skip, st, Q => Q.k .nrm st
  | .label _, st, Q => Q.k .nrm st
  | .ret, st, Q => Q.k .ret st
  | .exit id, st, Q => Q.k (.exit id) st
  | .seq a c, st, Q => @wpc a st ⟨fun | .nrm, st => @wpc c st Q | e, st => Q.k e st⟩
  | .cond x a c, st, Q => @condB (st.opd x) ⟨@wpc a st Q⟩ ⟨@wpc c st Q⟩
  | .block id c, st, Q => @wpc c st ⟨fun | .exit j, st => if j = id then Q.k .nrm st else Q.k (.exit j) st | e, st => Q.k e st⟩
  | .scope c, st, Q => @wpc c st Q
  | .loop c, st, Q => @loopR st ⟨fun st Q => @wpc c st Q⟩ Q
  | .region _ ops false, st, Q => @exs cx (ops.toList.map (·.dst)) ops.toList st ⟨fun st => Q.k .nrm st⟩
  | .rangeFunc g ps assign c, st, Q => @rangeR cx st (st.opd g) ps.toList ⟨fun st Q => @wpc assign st Q⟩ ⟨fun st Q => @wpc c st Q⟩ Q
  | .region id ops true, st, Q => @so _ (lkS cx.sch id) ⟨fun p => @exT cx p.1 ops.toList p.2 st ⟨fun st => Q.k .nrm st⟩⟩
  | _, _, _ => False

/-- What a function's results are. -/
def resOne (st : St) (r : ResultVar) [K : C V] : Prop :=
  match r with
  | .tmp t => K.k (st.env.getD t .u)
  | .cell t ty => @load cx st ty (st.env.getD t .u) K

def resAll (st : St) : List ResultVar → [C (List V)] → Prop
  | [], K => K.k []
  | r :: rs, K => @resOne cx st r ⟨fun v => @resAll st rs ⟨fun vs => K.k (v :: vs)⟩⟩

def told (vs : List V) : V :=
  match vs with
  | [v] => v
  | vs => .tup vs

def Om.del (om : Om) (id : Nat) : Om := fun k => if k = id then none else om k

/-- A row of its own, made fast. -/
def melt (om0 : Om) (st : St) (x : V) [K : C2 St V] : Prop :=
  match x with
  | .ow id off len _ => om0 id = none ∧ @so _ (st.om id) ⟨fun cs => (off + len ≤ cs.length ∧ uni 1 false ((cs.drop off).take len) = true) ∧ K.k ⟨st.env, st.mem, st.om.del id⟩ (.sl ((cs.drop off).take len))⟩
  | v => @give st v K

def melts (om0 : Om) (st : St) : List V → [C2 St (List V)] → Prop
  | [], K => K.k st []
  | x :: xs, K => @melt om0 st x ⟨fun st y => @melts om0 st xs ⟨fun st ys => K.k st (y :: ys)⟩⟩

def results (om0 : Om) (st : St) (rs : List ResultVar) [K : C2 V Om] : Prop :=
  @resAll cx st rs ⟨fun vs => match cx.md with
    | 0 => @gives st vs ⟨fun st vs => K.k (told vs) st.om⟩
    | 1 => @melts om0 st vs ⟨fun st vs => K.k (told vs) st.om⟩
    | _ => cleans vs = true ∧ K.k (told vs) st.om⟩

/-- The condition that a body keeps a contract's word at these arguments. -/
def body (fn : Func) (c : Code) (args : List V) (om : Om) (Q : V → Om → Prop) : Prop :=
  @wpc cx c ⟨args ++ List.replicate (fn.ntmps - args.length) .u, [], om⟩
    ⟨fun | .nrm, st => @results cx om st fn.results.toList ⟨Q⟩
         | .ret, st => @results cx om st fn.results.toList ⟨Q⟩
         | _, _ => False⟩
end

theorem C_k {α : Type} (f : α → Prop) (x : α) : @C.k α ⟨f⟩ x = f x := rfl
theorem C2_k {α β : Type} (f : α → β → Prop) (x : α) (y : β) : @C2.k α β ⟨f⟩ x y = f x y := rfl
theorem P0_p (A : Prop) : @P0.p ⟨A⟩ = A := rfl
attribute [go_sem] C_k C2_k P0_p spl_true spl_false spl_decide spl_not V.cells.eq_def V.isA.eq_def V.fits.eq_def uni.eq_def canSet.eq_def leV.eq_def TI.isAgg.eq_def Om.put.eq_def V.ofVal.eq_def St.opd.eq_def St.set.eq_def i64ok.eq_def pw.eq_def bin.eq_def un.eq_def conv.eq_def rd.eq_def lenV.eq_def TK.isSl.eq_def TK.isStr.eq_def ti.eq_def so.eq_def part.eq_def fieldOf.eq_def addr.eq_def fieldAddr.eq_def indexAddr.eq_def indexV.eq_def elemGet.eq_def load.eq_def splice.eq_def elemSet.eq_def store.eq_def slice.eq_def build.eq_def home.eq_def nilCheck.eq_def pickB.eq_def opds.eq_def ex1.eq_def give1.eq_def give.eq_def isOb.eq_def thing.eq_def call.eq_def fresh.eq_def append.eq_def exCall.eq_def ex.eq_def guarded.eq_def St.le.eq_def condB.eq_def resOne.eq_def told.eq_def Om.del.eq_def melt.eq_def results.eq_def body.eq_def
attribute [go_sem] placeS.eq_1 placeS.eq_2 placeA.eq_1 placeA.eq_2 List.getElem?_cons_zero List.getElem?_cons_succ hasN.eq_1 hasN.eq_2 hasN.eq_3 Mem.get.eq_1 Mem.get.eq_2 Mem.put.eq_1 Mem.put.eq_2 lk.eq_1 lk.eq_2 fill.eq_1 fill.eq_2 buildElems.eq_1 buildElems.eq_2 gives.eq_1 gives.eq_2 gives1.eq_1 gives1.eq_2 foldMx.eq_1 foldMx.eq_2 foldMx.eq_3 foldMx.eq_4 foldMx.eq_5 exs.eq_1 exs.eq_2 leE.eq_1 leE.eq_2 leE.eq_3 leM.eq_1 leM.eq_2 wpc.eq_1 wpc.eq_2 wpc.eq_3 wpc.eq_4 wpc.eq_5 wpc.eq_6 wpc.eq_7 wpc.eq_8 wpc.eq_9 wpc.eq_10 wpc.eq_11 wpc.eq_12 wpc.eq_13 clear1.eq_def fillIn.eq_1 lkR.eq_1 lkR.eq_2 notObj.eq_def notOw.eq_def seen.eq_def exR.eq_def exG.eq_def exT.eq_1 exT.eq_2 exT.eq_3 exT.eq_4 lkS.eq_1 lkS.eq_2 resAll.eq_1 resAll.eq_2 melts.eq_1 melts.eq_2 withins.eq_1 withins.eq_2 cleans.eq_1 cleans.eq_2 withinM.eq_1 withinM.eq_2 wfs.eq_1 wfs.eq_2 V.wf.eq_1 V.wf.eq_2 V.wf.eq_3 V.wf.eq_4 V.wf.eq_5 V.wf.eq_6 V.wf.eq_7 V.wf.eq_8 V.wf.eq_9 V.wf.eq_10 V.wf.eq_11 V.wf.eq_12 V.clean.eq_1 V.clean.eq_2 V.clean.eq_3 V.clean.eq_4 V.clean.eq_5 V.clean.eq_6 V.clean.eq_7 V.clean.eq_8 V.within.eq_1 V.within.eq_2 V.within.eq_3 V.within.eq_4 V.within.eq_5 V.within.eq_6 V.within.eq_7 V.within.eq_8
attribute [go_sem] List.getD_cons_zero List.getD_cons_succ List.set_cons_zero List.set_cons_succ List.set_nil List.getD_nil List.length_cons List.length_nil List.replicate_succ List.replicate_zero List.cons_append List.nil_append List.append_nil List.map_cons List.map_nil Option.some.injEq forall_const true_implies false_implies implies_true and_true true_and and_self Bool.false_eq_true Bool.true_eq_false if_true if_false V.b.injEq Option.getD_some Option.getD_none decide_eq_true_eq decide_eq_false_iff_not not_true_eq_false not_false_eq_true Bool.not_true Bool.not_false Bool.not_eq_true' Bool.not_eq_false' IntKind.signed.eq_def Int.toNat_natCast Option.map_some Option.map_none Bool.and_true Bool.true_and Bool.and_self V.n.injEq V.z.injEq V.sl.injEq V.lit.injEq V.row.injEq V.agg.injEq V.tup.injEq V.ref.injEq V.ifc.injEq V.obj.injEq V.arr.injEq V.ow.injEq List.cons.injEq List.all_cons List.all_nil List.zip_cons_cons List.zip_nil_right List.isEmpty_cons List.isEmpty_nil beq_self_eq_true Bool.not_eq_eq_eq_not
end Go.Proofs.Ytaojebdjkpdcdaa.I
