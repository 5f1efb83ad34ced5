/- Texts of the ideal machine, or of plain numbers, one behind the other: Ideal, Rep, Rel, Arith, Read, Eqs, Step, Fill, Build, Store, Give, MapOp. -/
import Derived.Orders
import Derived.Attr
import Derived.Laws.Rows
import Derived.Laws.Append
import Derived.Laws.MakeOwn
import Derived.Laws.AppendOwn
import Derived.Laws.Small
import Derived.Laws.CopyRow
import Derived.Laws.Build
import Derived.Calls
import Derived.RangeFuncRecord
import Derived.Laws.Cover3
import Derived.Laws.Cells
import Derived.MapKept
import Derived.WideKeyRuns
import Derived.Laws.Slices
/- The ideal machine: values as lists and numbers, named local homes, objects; a generator of verification conditions over the model's code. Definitions only. -/
namespace Go.Proofs.YteomkgcepiecjaaGreat.I
open Go
inductive V where
  | u
  | b (x : Bool)
  | n (k : IntKind) (x : Nat)
  | z (x : Int)
  | s (x : ByteArray)
  | sl (xs : List V)
  | lit (xs : List V)
  | nils
  | agg (cs : List V)
  | tup (vs : List V)
  | fn (f : Fn) (first cap : List V)
  | nilf
  | ifc (t : TypeId) (v : V)
  | nili
  | ref (h m es i off : Nat)
  | pc (cs : List V) (off : Nat)
  | obj (id off : Nat)
  | nilp
  | row (h m len : Nat)
  | arr (p : V) (len : Nat)
  | ow (id off len cap : Nat)
  | mp (h : Nat)
  | mc (ks vs : List V)
  | nilm
  deriving Inhabited
def V.cells : V → List V
  | .agg cs => cs
  | .mc _ _ => []
  | v => [v]
def flat (xs : List V) : List V := xs.flatMap V.cells
def V.isA : V → Bool
  | .agg _ => true
  | .mc _ _ => true
  | _ => false
def hasN : Nat → Nat → List V → Bool
  | 0, 0, _ => true
  | 0, n + 1, _ :: cs => hasN 0 n cs
  | o + 1, n, _ :: cs => hasN o n cs
  | _, _, _ => false
def V.fits (size : Nat) (ag : Bool) (v : V) : Bool :=
  match v with
  | .u => false
  | .agg cs => ag && cs.length == size
  | .tup _ => false
  | .mc _ _ => ag && size == 0
  | _ => !ag && size == 1
def uni (size : Nat) (ag : Bool) (xs : List V) : Bool := xs.all (V.fits size ag)
inductive TK where
  | int (k : IntKind)
  | bool
  | slice (e : TypeId)
  | struct (fs : List (Nat × TypeId))
  | array (n : Nat) (e : TypeId)
  | ptr (e : TypeId)
  | string
  | map (k e : TypeId)
  | iface
  | other
inductive CK where
  | i (k : IntKind)
  | b
  deriving DecidableEq
structure TI where
  k : TK
  size : Nat
  bytes : Nat
  cn : Bool
  zero : V
def TI.isAgg (t : TI) : Bool :=
  match t.k with
  | .struct _ => true
  | .array _ _ => true
  | _ => false
structure Hm where
  es : Nat
  ag : Bool
  els : List V
  fz : Bool
abbrev Mem := List (Nat × Hm)
abbrev Om := Nat → Option (List V)
structure St where
  env : List V
  mem : Mem
  om : Om
def Mem.get : Mem → Nat → Option Hm
  | [], _ => none
  | (h, H) :: m, k => if k = h then some H else Mem.get m k
def Mem.put : Mem → Nat → Hm → Mem
  | [], k, H => [(k, H)]
  | (h, G) :: m, k, H => if k = h then (h, H) :: m else (h, G) :: Mem.put m k H
def Om.put (om : Om) (id : Nat) (cs : List V) : Om := fun k => if k = id then some cs else om k
inductive Ex where
  | nrm
  | exit (id : Nat)
  | ret
  | gt (l : Nat)
class C (α : Type) : Type where
  k : α → Prop
class C2 (α β : Type) : Type where
  k : α → β → Prop
class P0 : Type where
  p : Prop
abbrev Cn := List V → Om → [C2 V Om] → Prop
inductive Sch where
  | done
  | take (i : Nat) (s : Sch)
  | alt (i : Nat) (s r : Sch)
  | no
structure Cx where
  T : TypeId → Option TI
  cs : List (FuncId × Cn)
  sch : List (Nat × Bool × Sch) := []
  ob : List Nat := []
  qs : List FuncId := []
  md : Nat := 0
  y : Option (Nat × Cn) := none
  rs : List (FuncId × (Cn → Cn)) := []
  E : TypeId → Option (List CK) := fun _ => none
  mt : List (TypeId × String × FuncId) := []
  gs : Option Nat := none
def OmKept (om om' : Om) : Prop := ∀ id cs, om id = some cs → om' id = some cs
theorem OmKept.refl (om : Om) : OmKept om om := fun _ _ h => h
@[go_sem] theorem OmKept_self (om : Om) : OmKept om om = True := eq_true (.refl om)
theorem OmKept.put {om om' : Om} {id : Nat} {cs : List V} (h : om id = none) (g : OmKept om om') : OmKept om (om'.put id cs) := fun i ds e => by
  simp only [Om.put]
  split
  · rename_i e'; subst e'; rw [h] at e; cases e
  · exact g i ds e
def lkS : List (Nat × Bool × Sch) → Nat → Option (Bool × Sch)
  | [], _ => none
  | (g, c) :: l, f => if f = g then some c else lkS l f
def lkR : List (FuncId × (Cn → Cn)) → FuncId → Option (Cn → Cn)
  | [], _ => none
  | (g, c) :: l, f => if f = g then some c else lkR l f
def lkM : List (TypeId × String × FuncId) → TypeId → String → Option FuncId
  | [], _, _ => none
  | (u, n, f) :: l, t, m => if t = u ∧ m = n then some f else lkM l t m
def lk : List (FuncId × Cn) → FuncId → Option Cn
  | [], _ => none
  | (g, c) :: l, f => if f = g then some c else lk l f
def V.ofVal : Value → V
  | .bool x => .b x
  | .int .i64 x => .z x
  | .int k x => .n k x.toNat
  | .string x => .s x
  | .slice none 0 0 => .nils
  | .pointer none => .nilp
  | .nilIface => .nili
  | .nilFunc => .nilf
  | .map none => .nilm
  | _ => .u
def isCon : Operand → Bool
  | .const _ => true
  | _ => false
def St.opd (st : St) : Operand → V
  | .tmp t => st.env.getD t .u
  | .const v => V.ofVal v
  | .global _ => .u
  | .func f => .fn (.func f) [] []
def St.set (st : St) (dst : Option Tmp) (v : V) : St :=
  match dst with
  | some d => ⟨st.env.set d v, st.mem, st.om⟩
  | none => st
def so {α : Type} (x : Option α) [K : C α] : Prop := match x with | some a => K.k a | none => False
def spl (x : Bool) [A : P0] [B : P0] : Prop := (x = true → A.p) ∧ (x = false → B.p)
theorem spl_true (A B : P0) : @spl true A B = A.p := by simp [spl]
theorem spl_false (A B : P0) : @spl false A B = B.p := by simp [spl]
theorem spl_decide (p : Prop) [Decidable p] (A B : P0) : @spl (decide p) A B = ((p → A.p) ∧ (¬p → B.p)) := by simp [spl]
theorem spl_not (x : Bool) (A B : P0) : @spl (!x) A B = @spl x B A := by cases x <;> simp [spl]
def i64ok (x : Int) : Prop := -9223372036854775808 ≤ x ∧ x ≤ 9223372036854775807
def pw (k : IntKind) : Nat := 2 ^ k.bits
def TK.isIf : TK → Bool
  | .iface => true
  | _ => false
def TK.isPt : TK → Bool
  | .ptr _ => true
  | _ => false
def TK.isSl : TK → Bool
  | .slice _ => true
  | _ => false
def bin (op : BinOp) (t : TK) (x y : V) [K : C V] : Prop :=
  match op, x, y with
  | .add, .z a, .z b => i64ok (a + b) ∧ K.k (.z (a + b))
  | .sub, .z a, .z b => i64ok (a - b) ∧ K.k (.z (a - b))
  | .mul, .z a, .z b => i64ok (a * b) ∧ K.k (.z (a * b))
  | .quo, .z a, .z b => (0 ≤ a ∧ 0 < b) ∧ K.k (.z (a / b))
  | .rem, .z a, .z b => (0 ≤ a ∧ 0 < b) ∧ K.k (.z (a % b))
  | .eql, .z a, .z b => K.k (.b (decide (a = b)))
  | .neq, .z a, .z b => K.k (.b (!decide (a = b)))
  | .lss, .z a, .z b => K.k (.b (decide (a < b)))
  | .leq, .z a, .z b => K.k (.b (decide (a ≤ b)))
  | .gtr, .z a, .z b => K.k (.b (decide (b < a)))
  | .geq, .z a, .z b => K.k (.b (decide (b ≤ a)))
  | .add, .n k a, .n k' b => k = k' ∧ K.k (.n k ((a + b) % pw k))
  | .sub, .n k a, .n k' b => k = k' ∧ K.k (.n k ((a + pw k - b) % pw k))
  | .mul, .n k a, .n k' b => k = k' ∧ K.k (.n k (a * b % pw k))
  | .quo, .n k a, .n k' b => k = k' ∧ b ≠ 0 ∧ K.k (.n k (a / b))
  | .rem, .n k a, .n k' b => k = k' ∧ b ≠ 0 ∧ K.k (.n k (a % b))
  | .and, .n k a, .n k' b => k = k' ∧ K.k (.n k (a &&& b))
  | .or, .n k a, .n k' b => k = k' ∧ K.k (.n k (a ||| b))
  | .xor, .n k a, .n k' b => k = k' ∧ K.k (.n k (a ^^^ b))
  | .eql, .n k a, .n k' b => k = k' ∧ K.k (.b (decide (a = b)))
  | .neq, .n k a, .n k' b => k = k' ∧ K.k (.b (!decide (a = b)))
  | .lss, .n k a, .n k' b => k = k' ∧ K.k (.b (decide (a < b)))
  | .leq, .n k a, .n k' b => k = k' ∧ K.k (.b (decide (a ≤ b)))
  | .gtr, .n k a, .n k' b => k = k' ∧ K.k (.b (decide (b < a)))
  | .geq, .n k a, .n k' b => k = k' ∧ K.k (.b (decide (b ≤ a)))
  | .shl, .n k a, .z b => 0 ≤ b ∧ K.k (.n k ((a <<< b.toNat) % pw k))
  | .shr, .n k a, .z b => 0 ≤ b ∧ K.k (.n k (a >>> b.toNat))
  | .shl, .n k a, .n _ b => K.k (.n k ((a <<< b) % pw k))
  | .shr, .n k a, .n _ b => K.k (.n k (a >>> b))
  | .eql, .b x, .b y => t = .bool ∧ K.k (.b (x == y))
  | .neq, .b x, .b y => t = .bool ∧ K.k (.b (x != y))
  | .eql, .sl xs, .nils => t.isSl = true ∧ (xs = [] → K.k (.b true)) ∧ K.k (.b false)
  | .neq, .sl xs, .nils => t.isSl = true ∧ (xs = [] → K.k (.b false)) ∧ K.k (.b true)
  | .eql, .lit _, .nils => t.isSl = true ∧ K.k (.b false)
  | .neq, .lit _, .nils => t.isSl = true ∧ K.k (.b true)
  | .eql, .nils, .nils => t.isSl = true ∧ K.k (.b true)
  | .neq, .nils, .nils => t.isSl = true ∧ K.k (.b false)
  | .eql, .row _ _ len, .nils => t.isSl = true ∧ (len = 0 → K.k (.b true)) ∧ K.k (.b false)
  | .neq, .row _ _ len, .nils => t.isSl = true ∧ (len = 0 → K.k (.b false)) ∧ K.k (.b true)
  | .eql, .ow .., .nils => t.isSl = true ∧ K.k (.b false)
  | .neq, .ow .., .nils => t.isSl = true ∧ K.k (.b true)
  | .eql, .ifc _ _, .nili => t.isIf = true ∧ K.k (.b false)
  | .neq, .ifc _ _, .nili => t.isIf = true ∧ K.k (.b true)
  | .eql, .arr _ len, .nils => t.isSl = true ∧ (len = 0 → K.k (.b true)) ∧ K.k (.b false)
  | .neq, .arr _ len, .nils => t.isSl = true ∧ (len = 0 → K.k (.b false)) ∧ K.k (.b true)
  | .eql, .obj _ _, .nilp => t.isPt = true ∧ K.k (.b false)
  | .neq, .obj _ _, .nilp => t.isPt = true ∧ K.k (.b true)
  | .eql, .nilp, .nilp => t.isPt = true ∧ K.k (.b true)
  | .neq, .nilp, .nilp => t.isPt = true ∧ K.k (.b false)
  | _, _, _ => False
def un (op : UnOp) (x : V) [K : C V] : Prop :=
  match op, x with
  | .not, .b x => K.k (.b (!x))
  | .neg, .n k a => K.k (.n k ((pw k - a) % pw k))
  | .neg, .z a => i64ok (-a) ∧ K.k (.z (-a))
  | _, _ => False
def conv (d : TK) (x : V) [K : C V] : Prop :=
  match d, x with
  | .int .i64, .z a => K.k (.z a)
  | .int .i64, .n _ a => a < 9223372036854775808 ∧ K.k (.z a)
  | .int k, .z a => k.signed = false ∧ K.k (.n k (a % (pw k : Int)).toNat)
  | .int k, .n _ a => k.signed = false ∧ K.k (.n k (a % pw k))
  | _, _ => False
def rd (m : Mem) (om : Om) (x : V) [K : C (List V)] : Prop :=
  match x with
  | .sl xs => K.k xs
  | .lit xs => K.k xs
  | .nils => K.k []
  | .row h n len => @so _ (m.get h) ⟨fun H => H.els.length = n ∧ K.k (H.els.take len)⟩
  | .ow id off len _ => @so _ (om id) ⟨fun cs => (off + len ≤ cs.length ∧ uni 1 false ((cs.drop off).take len) = true) ∧ K.k ((cs.drop off).take len)⟩
  | .arr (.obj id off) len => @so _ (om id) ⟨fun cs => (off + len ≤ cs.length ∧ uni 1 false ((cs.drop off).take len) = true) ∧ K.k ((cs.drop off).take len)⟩
  | _ => False
def TK.isStr : TK → Bool
  | .string => true
  | _ => false
def lenV (t : TK) (x : V) [K : C Nat] : Prop :=
  match x with
  | .sl xs => t.isSl = true ∧ K.k xs.length
  | .lit xs => t.isSl = true ∧ K.k xs.length
  | .nils => t.isSl = true ∧ K.k 0
  | .row _ _ len => t.isSl = true ∧ K.k len
  | .arr _ len => t.isSl = true ∧ K.k len
  | .ow _ _ len _ => t.isSl = true ∧ K.k len
  | .s x => t.isStr = true ∧ K.k x.size
  | _ => False
mutual
def V.clean : V → Bool
  | .ref .. => false
  | .row .. => false
  | .mp .. => false
  | .mc .. => false
  | .arr p _ => V.clean p
  | .agg cs => cleans cs
  | .tup cs => cleans cs
  | .fn _ a c => cleans a && cleans c
  | .ifc _ v => V.clean v
  | _ => true
def cleans : List V → Bool
  | [] => true
  | v :: vs => V.clean v && cleans vs
end
def longest : Nat := 9223372036854775807
mutual
def V.wf : V → Prop
  | .n k x => x < 2 ^ k.bits
  | .z x => i64ok x
  | .s x => x.size ≤ longest
  | .sl xs => xs.length ≤ longest ∧ wfs xs
  | .lit xs => xs.length ≤ longest ∧ wfs xs
  | .agg cs => wfs cs
  | .tup cs => wfs cs
  | .ifc _ v => V.wf v
  | .fn _ a c => wfs a ∧ wfs c
  | .pc cs _ => wfs cs
  | .ow _ _ len cap => len ≤ cap ∧ cap ≤ longest
  | _ => True
def wfs : List V → Prop
  | [] => True
  | v :: vs => V.wf v ∧ wfs vs
end
section
variable (cx : Cx)
def ti (t : TypeId) [K : C TI] : Prop := @so _ (cx.T t) K
def part (i : TI) (cs : List V) (off : Nat) [K : C V] : Prop :=
  hasN off i.size cs = true ∧ match i.isAgg with
  | true => K.k (.agg ((cs.drop off).take i.size))
  | false => K.k (cs.getD off .u)
def fieldOf (t : TypeId) (f : Nat) [K : C2 Nat TypeId] : Prop :=
  @ti cx t ⟨fun i => match i.k with
    | .struct fs => @so _ fs[f]? ⟨fun p => K.k p.1 p.2⟩
    | _ => False⟩
def addr (x : V) (d : Nat) [K : C V] : Prop :=
  match x with
  | .ref h m es i o => K.k (.ref h m es i (o + d))
  | .pc cs o => K.k (.pc cs (o + d))
  | .obj id o => K.k (.obj id (o + d))
  | _ => False
def fieldAddr (t : TypeId) (x : V) (f : Nat) [K : C V] : Prop :=
  @fieldOf cx t f ⟨fun off _ => @addr x off K⟩
def fit1 : CK → V → Bool
  | .i k, .n j _ => decide (j = k)
  | .i k, .z _ => decide (k = .i64)
  | .b, .b _ => true
  | _, _ => false
def fitK : List CK → List V → Bool
  | [], [] => true
  | k :: ks, x :: xs => fit1 k x && fitK ks xs
  | _, _ => false
def numV (k : IntKind) (n : Int) : V := if k = .i64 then .z n else .n k n.toNat
open Classical in
noncomputable def binA (op : BinOp) (t : TypeId) (x y : V) (c : Bool) [K : C V] : Prop :=
  match op, x, y with
  | .eql, .agg xs, .agg ys => @so _ (cx.E t) ⟨fun ks => (fitK ks xs = true ∧ fitK ks ys = true) ∧ K.k (.b (decide (xs = ys)))⟩
  | .neq, .agg xs, .agg ys => @so _ (cx.E t) ⟨fun ks => (fitK ks xs = true ∧ fitK ks ys = true) ∧ K.k (.b (!decide (xs = ys)))⟩
  | .eql, .nili, .nili => @ti cx t ⟨fun i => (c = true ∧ i.k.isIf = true) ∧ K.k (.b true)⟩
  | .neq, .nili, .nili => @ti cx t ⟨fun i => (c = true ∧ i.k.isIf = true) ∧ K.k (.b false)⟩
  | op, x, y => @ti cx t ⟨fun i => @bin op i.k x y K⟩
def ixOf : V → Option Int
  | .z a => some a
  | .n _ a => some (a : Int)
  | _ => none
def indexAddr (m : Mem) (t : TypeId) (x ix : V) [K : C V] : Prop :=
  @ti cx t ⟨fun i => match i.k with
    | .slice e => @so _ (ixOf ix) ⟨fun a => @ti cx e ⟨fun ei => match x with
      | .sl xs => ((0 ≤ a ∧ a < xs.length) ∧ (xs.getD a.toNat ei.zero).cells.length = ei.size) ∧ K.k (.pc (xs.getD a.toNat ei.zero).cells 0)
      | .lit xs => ((0 ≤ a ∧ a < xs.length) ∧ (xs.getD a.toNat ei.zero).cells.length = ei.size) ∧ K.k (.pc (xs.getD a.toNat ei.zero).cells 0)
      | .row h n len => @so _ (m.get h) ⟨fun H => (H.els.length = n ∧ H.es = ei.size ∧ (0 ≤ a ∧ a < len)) ∧ K.k (.ref h n ei.size a.toNat 0)⟩
      | .arr p len => ei.size = 1 ∧ (0 ≤ a ∧ a < len) ∧ @addr p a.toNat K
      | .ow id off len _ => (0 ≤ a ∧ a < len) ∧ K.k (.obj id (off + a.toNat * ei.size))
      | _ => False⟩⟩
    | .array n e => @so _ (ixOf ix) ⟨fun a => @ti cx e ⟨fun ei => (0 ≤ a ∧ a < n) ∧ @addr x (a.toNat * ei.size) K⟩⟩
    | _ => False⟩
def byteAt (s : ByteArray) (i : Nat) : Nat := (s.data.getD i 0).toNat
def indexV (t : TypeId) (x ix : V) [K : C V] : Prop :=
  @ti cx t ⟨fun i => match i.k, x, ix with
    | .array n e, .agg cs, .z a => @ti cx e ⟨fun ei => (0 ≤ a ∧ a < n) ∧ @part ei cs (a.toNat * ei.size) K⟩
    | .string, .s s, .z a => (0 ≤ a ∧ a < s.size) ∧ K.k (.n .u8 (byteAt s a.toNat))
    | .string, .s s, .n _ a => a < s.size ∧ K.k (.n .u8 (byteAt s a))
    | _, _, _ => False⟩
def elemGet (i : TI) (H : Hm) (j o : Nat) [K : C V] : Prop :=
  match H.ag with
  | true => @part i (H.els.getD j .u).cells o K
  | false => (o = 0 ∧ i.isAgg = false) ∧ K.k (H.els.getD j i.zero)
def load (st : St) (t : TypeId) (x : V) [K : C V] : Prop :=
  @ti cx t ⟨fun i => match x with
    | .pc cs o => @part i cs o K
    | .ref h m es j o => @so _ (st.mem.get h) ⟨fun H => (H.els.length = m ∧ j < m ∧ H.es = es) ∧ @elemGet i H j o K⟩
    | .obj id o => @so _ (st.om id) ⟨fun cs => @part i cs o K⟩
    | _ => False⟩
def splice (cs : List V) (off : Nat) (vs : List V) : List V := cs.take off ++ vs ++ cs.drop (off + vs.length)
def elemSet (H : Hm) (j o : Nat) (v : V) : Hm :=
  match H.ag with
  | true => ⟨H.es, H.ag, H.els.set j (.agg (splice (H.els.getD j .u).cells o v.cells)), H.fz⟩
  | false => ⟨H.es, H.ag, H.els.set j v, H.fz⟩
def canSet (i : TI) (H : Hm) (j o : Nat) : Bool :=
  match H.ag with
  | true => hasN o i.size (H.els.getD j .u).cells
  | false => !i.isAgg && o == 0
def give1 (st : St) (x : V) [K : C2 St V] : Prop :=
  match x with
  | .row h n len => @so _ (st.mem.get h) ⟨fun H => (H.els.length = n ∧ cleans H.els = true) ∧ K.k ⟨st.env, st.mem.put h ⟨H.es, H.ag, H.els, true⟩, st.om⟩ (.sl (H.els.take len))⟩
  | .nils => K.k st (.sl [])
  | .lit xs => K.k st (.sl xs)
  | v => v.clean = true ∧ K.k st v
def gives1 (st : St) : List V → [C2 St (List V)] → Prop
  | [], K => K.k st []
  | x :: xs, K => @give1 st x ⟨fun st y => @gives1 st xs ⟨fun st ys => K.k st (y :: ys)⟩⟩
def give (st : St) (x : V) [K : C2 St V] : Prop :=
  match x with
  | .agg cs => @gives1 st cs ⟨fun st ys => K.k st (.agg ys)⟩
  | v => @give1 st v K
def isOb (dst : Option Tmp) : Bool := match dst with | some d => cx.ob.contains d | none => false
def thing (st : St) (dst : Option Tmp) (x : V) [K : C St] : Prop :=
  @give st x ⟨fun st y => @so _ dst ⟨fun d => ∀ id, st.om id = none → K.k ⟨st.env.set d (.obj id 0), st.mem, st.om.put id y.cells⟩⟩⟩
def store (st : St) (t : TypeId) (x v : V) [K : C St] : Prop :=
  @ti cx t ⟨fun i => v.fits i.size i.isAgg = true ∧ match x with
    | .ref h m es j o => @so _ (st.mem.get h) ⟨fun H => (H.fz = false ∧ H.els.length = m ∧ j < m ∧ H.es = es ∧ canSet i H j o = true) ∧
        K.k ⟨st.env, st.mem.put h (elemSet H j o v), st.om⟩⟩
    | .obj id o => @so _ (st.om id) ⟨fun cs => hasN o i.size cs = true ∧ @give st v ⟨fun st y => K.k ⟨st.env, st.mem, st.om.put id (splice cs o y.cells)⟩⟩⟩
    | _ => False⟩
def keyOk : TK → V → Bool
  | .bool, .b _ => true
  | .int j, .n k _ => j == k
  | .int j, .z _ => j == .i64
  | _, _ => false
def keyE (e : Option (List CK)) : V → Bool
  | .agg xs => match e with
    | some ks => fitK ks xs
    | none => false
  | _ => false
def keyAt (e : Option (List CK)) (tk : TK) (k : V) : Bool :=
  match tk with
  | .struct _ => keyE e k
  | .array _ _ => keyE e k
  | tk => keyOk tk k
def atKey (k : V) : List V → List V → [C (Option V)] → Prop
  | [], _, K => K.k none
  | _ :: _, [], K => K.k none
  | c :: ks, v :: vs, K => (c = k → K.k (some v)) ∧ (¬ c = k → @atKey k ks vs K)
def setKey (k v : V) : List V → List V → [C2 (List V) (List V)] → Prop
  | [], _, K => K.k [k] [v]
  | _ :: _, [], K => K.k [k] [v]
  | c :: ks, w :: vs, K => (c = k → K.k (c :: ks) (v :: vs)) ∧ (¬ c = k → @setKey k v ks vs ⟨fun ks vs => K.k (c :: ks) (w :: vs)⟩)
def ixKey (k : V) : List V → List V → Nat → [C (Option (Nat × V))] → Prop
  | [], _, _, K => K.k none
  | _ :: _, [], _, K => K.k none
  | c :: ks, v :: vs, i, K => (c = k → K.k (some (i, v))) ∧ (¬ c = k → @ixKey k ks vs (i + 1) K)
def mapAt (st : St) (x : V) [K : C2 Nat (List V × List V)] : Prop :=
  match x with
  | .mp h => @so _ (st.mem.get h) ⟨fun H => match H with
    | ⟨0, true, [.mc ks vs], true⟩ => K.k h (ks, vs)
    | _ => False⟩
  | _ => False
def mapGet (t : TypeId) (st : St) (x k : V) (ok : Bool) [K : C V] : Prop :=
  @ti cx t ⟨fun i => match i.k with
    | .map kt e => @ti cx kt ⟨fun ki => @ti cx e ⟨fun ei => @mapAt st x ⟨fun _ p => (keyAt (cx.E kt) ki.k k = true ∧ p.1.all (keyAt (cx.E kt) ki.k) = true ∧ p.1.length = p.2.length) ∧ @atKey k p.1 p.2 ⟨fun r => match r, ok with
      | some v, true => K.k (.tup [v, .b true])
      | some v, false => K.k v
      | none, true => K.k (.tup [ei.zero, .b false])
      | none, false => K.k ei.zero⟩⟩⟩⟩
    | _ => False⟩
def mapSet (t : TypeId) (st : St) (dst : Option Tmp) (x k v : V) [K : C St] : Prop :=
  @ti cx t ⟨fun i => match i.k with
    | .map kt _ => @ti cx kt ⟨fun ki => @mapAt st x ⟨fun h p => (keyAt (cx.E kt) ki.k k = true ∧ p.1.all (keyAt (cx.E kt) ki.k) = true ∧ p.1.length = p.2.length) ∧
        @setKey k v p.1 p.2 ⟨fun ks vs => K.k ((⟨st.env, st.mem.put h ⟨0, true, [.mc ks vs], true⟩, st.om⟩ : St).set dst .u)⟩⟩⟩
    | _ => False⟩
def mapEnt (t : TypeId) (st : St) (dst : Option Tmp) (x k : V) [K : C St] : Prop :=
  @ti cx t ⟨fun i => match i.k with
    | .map kt e => @ti cx kt ⟨fun ki => @ti cx e ⟨fun ei => @mapAt st x ⟨fun h p => (keyAt (cx.E kt) ki.k k = true ∧ p.1.all (keyAt (cx.E kt) ki.k) = true ∧ p.1.length = p.2.length ∧ p.1.length ≤ 1099511627776) ∧ @ixKey k p.1 p.2 0 ⟨fun r => match r with
      | some (j, v) => K.k ((⟨st.env, st.mem.put h ⟨0, true, [.mc p.1 p.2], true⟩, st.om⟩ : St).set dst (.tup [v, .z j]))
      | none => K.k ((⟨st.env, st.mem.put h ⟨0, true, [.mc (p.1 ++ [k]) (p.2 ++ [ei.zero])], true⟩, st.om⟩ : St).set dst (.tup [ei.zero, .z p.1.length]))⟩⟩⟩⟩
    | _ => False⟩
def entStore (st : St) (dst : Option Tmp) (x s v : V) [K : C St] : Prop :=
  @mapAt st x ⟨fun h p => match s with
    | .z a => (0 ≤ a ∧ a < p.2.length ∧ p.1.length = p.2.length) ∧ K.k ((⟨st.env, st.mem.put h ⟨0, true, [.mc p.1 (p.2.set a.toNat v)], true⟩, st.om⟩ : St).set dst .u)
    | _ => False⟩
def bnd (x : Option V) (d : Int) [K : C Int] : Prop :=
  match x with
  | none => K.k d
  | some (.z a) => K.k a
  | some (.n _ a) => K.k (a : Int)
  | _ => False
def sliceS (ei : TI) (x : V) (lo hi : Option V) [K : C V] : Prop :=
  match x with
  | .sl xs => @bnd lo 0 ⟨fun a => @bnd hi xs.length ⟨fun b => ((0 ≤ a ∧ a ≤ b ∧ b ≤ xs.length) ∧ uni ei.size ei.isAgg xs = true) ∧ K.k (.sl ((xs.take b.toNat).drop a.toNat))⟩⟩
  | .lit xs => @bnd lo 0 ⟨fun a => @bnd hi xs.length ⟨fun b => ((0 ≤ a ∧ a ≤ b ∧ b ≤ xs.length) ∧ uni ei.size ei.isAgg xs = true) ∧ K.k (.sl ((xs.take b.toNat).drop a.toNat))⟩⟩
  | .row h n len => @bnd lo 0 ⟨fun a => @bnd hi len ⟨fun b => (a = 0 ∧ 0 ≤ b ∧ b ≤ len) ∧ K.k (.row h n b.toNat)⟩⟩
  | .arr p len => @bnd lo 0 ⟨fun a => @bnd hi len ⟨fun b => (ei.size = 1 ∧ 0 ≤ a ∧ a ≤ b ∧ b ≤ len) ∧ @addr p a.toNat ⟨fun q => K.k (.arr q (b - a).toNat)⟩⟩⟩
  | .ow id off len cap => @bnd lo 0 ⟨fun a => @bnd hi len ⟨fun b => (0 ≤ a ∧ a ≤ b ∧ b ≤ cap) ∧ K.k (.ow id (off + a.toNat * ei.size) (b - a).toNat (cap - a.toNat))⟩⟩
  | _ => False
def most : Nat := 1099511627776
def bmost : Nat := 140737488355328
def slice (t : TypeId) (x : V) (lo hi mx : Option V) [K : C V] : Prop :=
  @ti cx t ⟨fun i => match i.k with
    | .slice e => mx.isNone = true ∧ @ti cx e ⟨fun ei => @sliceS ei x lo hi K⟩
    | .array n e => @ti cx e ⟨fun ei => @bnd lo 0 ⟨fun a => @bnd hi n ⟨fun b => @bnd mx n ⟨fun c =>
        (ei.size = 1 ∧ 0 ≤ a ∧ a ≤ b ∧ b ≤ c ∧ c ≤ n ∧ (mx.isSome = true → hi.isSome = true) ∧ n ≤ most) ∧ @addr x a.toNat ⟨fun q => K.k (.arr q (b - a).toNat)⟩⟩⟩⟩⟩
    | _ => False⟩
def fill (zs : List V) : List (Nat × V) → List V
  | [] => zs
  | (off, v) :: l => fill (splice zs off v.cells) l
def placeS (fs : List (Nat × TypeId)) (zs : List V) : List (Nat × V) → [C (List (Nat × V))] → Prop
  | [], K => K.k []
  | (j, v) :: l, K => @so _ fs[j]? ⟨fun p => @ti cx p.2 ⟨fun fi => (v.fits fi.size fi.isAgg = true ∧ hasN p.1 fi.size zs = true) ∧ @placeS fs zs l ⟨fun r => K.k ((p.1, v) :: r)⟩⟩⟩
def placeA (ei : TI) (zs : List V) : List (Nat × V) → [C (List (Nat × V))] → Prop
  | [], K => K.k []
  | (j, v) :: l, K => (v.fits ei.size ei.isAgg = true ∧ hasN (j * ei.size) ei.size zs = true) ∧ @placeA ei zs l ⟨fun r => K.k ((j * ei.size, v) :: r)⟩
def build (t : TypeId) (parts : List (Nat × V)) [K : C V] : Prop :=
  @ti cx t ⟨fun i => match i.k with
    | .struct fs => @placeS cx fs i.zero.cells parts ⟨fun ps => K.k (.agg (fill i.zero.cells ps))⟩
    | .array _ e => @ti cx e ⟨fun ei => @placeA ei i.zero.cells parts ⟨fun ps => K.k (.agg (fill i.zero.cells ps))⟩⟩
    | _ => False⟩
def buildElems (l : List V) : List (Nat × V) → List V
  | [] => l
  | (j, v) :: ps => buildElems (l.set j v) ps
def home (st : St) (dst : Option Tmp) (es : Nat) (ag : Bool) (els : List V) (fz : Bool) (v : Nat → V) [K : C St] : Prop :=
  @so _ dst ⟨fun d => st.mem.get d = none ∧ K.k ⟨st.env.set d (v d), (d, ⟨es, ag, els, fz⟩) :: st.mem, st.om⟩⟩
def nilCheck (x : V) [K : C V] : Prop :=
  match x with
  | .ref h m es i o => K.k (.ref h m es i o)
  | .pc cs o => K.k (.pc cs o)
  | .obj id o => K.k (.obj id o)
  | .fn (.func f) a b => K.k (.fn (.func f) a b)
  | .fn (.method m) [.ifc t v] [] => @so _ (lkM cx.mt t m) ⟨fun _ => K.k (.fn (.method m) [.ifc t v] [])⟩
  | _ => False
def pickB (c : V) [A : P0] [B : P0] : Prop :=
  match c with
  | .b x => @spl x A B
  | _ => False
def opds (st : St) (l : List (Nat × Operand)) : List (Nat × V) := l.map fun p => (p.1, st.opd p.2)
def ex1 (st : St) (dst : Option Tmp) (op : Op) [K : C St] : Prop :=
  match op with
  | .move x => K.k (st.set dst (st.opd x))
  | .assign x => K.k (st.set dst (st.opd x))
  | .pick c a b => @pickB (st.opd c) ⟨K.k (st.set dst (st.opd a))⟩ ⟨K.k (st.set dst (st.opd b))⟩
  | .alloc e => @ti cx e ⟨fun i => match isOb cx dst with
    | true => @thing st dst i.zero K
    | false => @home st dst i.size i.isAgg [i.zero] false (fun d => .ref d 1 i.size 0 0) K⟩
  | .box e x => @ti cx e ⟨fun i => (st.opd x).fits i.size i.isAgg = true ∧ match isOb cx dst with
    | true => @thing st dst (st.opd x) K
    | false => @home st dst i.size i.isAgg [st.opd x] false (fun d => .ref d 1 i.size 0 0) K⟩
  | .build t ps => @build cx t (opds st ps.toList) ⟨fun v => K.k (st.set dst v)⟩
  | .load t a => @load cx st t (st.opd a) ⟨fun v => K.k (st.set dst v)⟩
  | .store t a x => @store cx st t (st.opd a) (st.opd x) ⟨fun s => K.k (s.set dst .u)⟩
  | .nilCheck x => @nilCheck cx (st.opd x) ⟨fun v => K.k (st.set dst v)⟩
  | .binOp op t x y _ => @binA cx op t (st.opd x) (st.opd y) (isCon x || isCon y) ⟨fun v => K.k (st.set dst v)⟩
  | .unOp op _ x => @un op (st.opd x) ⟨fun v => K.k (st.set dst v)⟩
  | .convert t d x => @ti cx t ⟨fun _ => @ti cx d ⟨fun di => @conv di.k (st.opd x) ⟨fun v => K.k (st.set dst v)⟩⟩⟩
  | .makeInterface t x => @ti cx t ⟨fun i => i.cn = true ∧ K.k (st.set dst (.ifc t (st.opd x)))⟩
  | .makeFunc f fs cs => K.k (st.set dst (.fn f (fs.toList.map st.opd) (cs.toList.map st.opd)))
  | .makeSlice t l c => @ti cx t ⟨fun i => match i.k, st.opd l, st.opd c with
      | .slice e, .z a, .z b => @ti cx e ⟨fun ei => (0 ≤ a ∧ a ≤ b ∧ b ≤ most ∧ ei.bytes ≤ 64) ∧
          match isOb cx dst with
          | true => @so _ dst ⟨fun d => ∀ id, st.om id = none → K.k ⟨st.env.set d (.ow id 0 a.toNat b.toNat), st.mem, st.om.put id (flat (List.replicate b.toNat ei.zero))⟩⟩
          | false => @home st dst ei.size ei.isAgg (List.replicate a.toNat ei.zero) false (fun d => .row d a.toNat a.toNat) K⟩
      | _, _, _ => False⟩
  | .slice t x lo hi mx => @slice cx t (st.opd x) (lo.map st.opd) (hi.map st.opd) (mx.map st.opd) ⟨fun v => K.k (st.set dst v)⟩
  | .fieldAddr t x f => @fieldAddr cx t (st.opd x) f ⟨fun v => K.k (st.set dst v)⟩
  | .field t x f => @fieldOf cx t f ⟨fun off ft => @ti cx ft ⟨fun fi => match st.opd x with
      | .agg cs => @part fi cs off ⟨fun v => K.k (st.set dst v)⟩
      | _ => False⟩⟩
  | .indexAddr t x ix => @indexAddr cx st.mem t (st.opd x) (st.opd ix) ⟨fun v => K.k (st.set dst v)⟩
  | .index t x ix => @indexV cx t (st.opd x) (st.opd ix) ⟨fun v => K.k (st.set dst v)⟩
  | .extract x i => match st.opd x with
      | .tup vs => @so _ vs[i]? ⟨fun v => K.k (st.set dst v)⟩
      | _ => False
  | .makeMap t r => @ti cx t ⟨fun i => match i.k, r with
      | .map _ _, none => @home st dst 0 true [.mc [] []] true .mp K
      | _, _ => False⟩
  | .lookup t x k ok => @mapGet cx t st (st.opd x) (st.opd k) ok ⟨fun v => K.k (st.set dst v)⟩
  | .insert t x k v => @mapSet cx t st dst (st.opd x) (st.opd k) (st.opd v) K
  | .mapUpdate t x k v => @mapSet cx t st dst (st.opd x) (st.opd k) (st.opd v) K
  | .mapEntry t x k => @mapEnt cx t st dst (st.opd x) (st.opd k) K
  | .entryStore _ x s v => @entStore st dst (st.opd x) (st.opd s) (st.opd v) K
  | _ => False
def gives (st : St) : List V → [C2 St (List V)] → Prop
  | [], K => K.k st []
  | x :: xs, K => @give st x ⟨fun st y => @gives st xs ⟨fun st ys => K.k st (y :: ys)⟩⟩
def call (st : St) (dst : Option Tmp) (f : FuncId) (args : List V) [K : C St] : Prop :=
  @gives st args ⟨fun st args => @so _ (lk cx.cs f) ⟨fun c => @c args st.om ⟨fun r om => r.wf → K.k ((⟨st.env, st.mem, om⟩ : St).set dst r)⟩⟩⟩
def fresh (st : St) (dst : Option Tmp) (ei : TI) (xs : List V) [K : C St] : Prop :=
  (cleans xs = true ∧ xs.length * ei.bytes ≤ bmost) ∧ @so _ dst ⟨fun d => ∀ id, st.om id = none → ∀ cap, xs.length ≤ cap → cap ≤ longest →
    K.k ⟨st.env.set d (.ow id 0 xs.length cap), st.mem, st.om.put id (flat (xs ++ List.replicate (cap - xs.length) ei.zero))⟩⟩
def append (st : St) (dst : Option Tmp) (t : TypeId) (x y : V) [K : C St] : Prop :=
  @ti cx t ⟨fun i => match i.k with
    | .slice e => @ti cx e ⟨fun ei => @rd st.mem st.om y ⟨fun ys => (uni ei.size ei.isAgg ys = true ∧ 1 ≤ ei.bytes ∧ ei.bytes ≤ 64) ∧ match x with
      | .nils => match isOb cx dst with
        | true => (ys = [] → K.k (st.set dst .nils)) ∧ (0 < ys.length → @fresh st dst ei ys K)
        | false => ys.length * ei.bytes ≤ bmost ∧ @home st dst ei.size ei.isAgg ys false (fun d => .row d ys.length ys.length) K
      | .lit xs => match isOb cx dst with
        | true => uni ei.size ei.isAgg xs = true ∧ (ys = [] → K.k (st.set dst (.lit xs))) ∧ (0 < ys.length → @fresh st dst ei (xs ++ ys) K)
        | false => ((xs ++ ys).length * ei.bytes ≤ bmost ∧ uni ei.size ei.isAgg xs = true) ∧ @home st dst ei.size ei.isAgg (xs ++ ys) (!xs.isEmpty) (fun d => .row d (xs ++ ys).length (xs ++ ys).length) K
      | .row h n len => @so _ (st.mem.get h) ⟨fun H => (H.els.length = n ∧ len = n ∧ H.es = ei.size ∧ H.ag = ei.isAgg ∧ (n + ys.length) * ei.bytes ≤ bmost) ∧
          K.k ((⟨st.env, st.mem.put h ⟨H.es, H.ag, H.els ++ ys, H.fz⟩, st.om⟩ : St).set dst (.row h (n + ys.length) (n + ys.length)))⟩
      | .ow id off len cap => @so _ (st.om id) ⟨fun cs => (cleans ys = true ∧ len ≤ cap ∧ off + cap * ei.size ≤ cs.length ∧ (len + ys.length) * ei.bytes ≤ bmost) ∧
          (len + ys.length ≤ cap → K.k ((⟨st.env, st.mem, st.om.put id (splice cs (off + len * ei.size) (flat ys))⟩ : St).set dst (.ow id off (len + ys.length) cap))) ∧
          (cap < len + ys.length → @so _ dst ⟨fun d => ∀ id', st.om id' = none → ∀ cap', len + ys.length ≤ cap' → cap' ≤ longest →
            K.k ⟨st.env.set d (.ow id' 0 (len + ys.length) cap'), st.mem, st.om.put id' ((cs.drop off).take (len * ei.size) ++ flat ys ++ flat (List.replicate (cap' - (len + ys.length)) ei.zero))⟩⟩)⟩
      | _ => False⟩⟩
    | _ => False⟩
def putAt (st : St) (x : V) (es : Nat) (cells : List V) [K : C St] : Prop :=
  match x with
  | .ow id off len _ => @so _ (st.om id) ⟨fun cs => (cells.length ≤ len * es ∧ off + cells.length ≤ cs.length ∧ cleans cells = true) ∧ K.k ⟨st.env, st.mem, st.om.put id (splice cs off cells)⟩⟩
  | .arr (.obj id off) len => @so _ (st.om id) ⟨fun cs => (es = 1 ∧ cells.length ≤ len ∧ off + cells.length ≤ cs.length ∧ cleans cells = true) ∧ K.k ⟨st.env, st.mem, st.om.put id (splice cs off cells)⟩⟩
  | .arr (.ref h m hes j o) len => @so _ (st.mem.get h) ⟨fun H => (H.fz = false ∧ H.els.length = m ∧ j < m ∧ H.es = hes ∧ H.ag = true ∧ es = 1 ∧ cells.length ≤ len ∧ o + cells.length ≤ hes) ∧
      match H.els.getD j .u with
      | .agg cs => K.k ⟨st.env, st.mem.put h ⟨H.es, H.ag, H.els.set j (.agg (splice cs o cells)), H.fz⟩, st.om⟩
      | _ => False⟩
  | .row h m len => @so _ (st.mem.get h) ⟨fun H => (H.fz = false ∧ H.els.length = m ∧ H.es = 1 ∧ H.ag = false ∧ es = 1 ∧ cells.length ≤ len ∧ uni 1 false cells = true) ∧
      K.k ⟨st.env, st.mem.put h ⟨H.es, H.ag, cells ++ H.els.drop cells.length, H.fz⟩, st.om⟩⟩
  | _ => cells = [] ∧ K.k st
def copyTo (st : St) (dst : Option Tmp) (t : TypeId) (x y : V) [K : C St] : Prop :=
  @ti cx t ⟨fun i => match i.k with
    | .slice e => @ti cx e ⟨fun ei => @rd st.mem st.om y ⟨fun ys => @lenV i.k x ⟨fun n => uni ei.size ei.isAgg ys = true ∧ @putAt st x ei.size (flat (ys.take (min ys.length n))) ⟨fun st => K.k (st.set dst (.z (min ys.length n : Nat)))⟩⟩⟩⟩
    | _ => False⟩
def clearAll (st : St) (dst : Option Tmp) (t : TypeId) (x : V) [K : C St] : Prop :=
  @ti cx t ⟨fun i => match i.k with
    | .slice e => @ti cx e ⟨fun ei => @lenV i.k x ⟨fun n => @putAt st x ei.size (flat (List.replicate n ei.zero)) ⟨fun st => K.k (st.set dst (.tup []))⟩⟩⟩
    | _ => False⟩
def foldMx (mx : Bool) : V → List V → Option V
  | .z a, [] => some (.z a)
  | .z a, .z b :: l => foldMx mx (.z (if mx then max a b else min a b)) l
  | .n k a, [] => some (.n k a)
  | .n k a, .n k' b :: l => if k = k' then foldMx mx (.n k (if mx then max a b else min a b)) l else none
  | _, _ => none
def exCall (st : St) (dst : Option Tmp) (c : Callee) (args : List V) (tys : List TypeId) [K : C St] : Prop :=
  match c with
  | .value f => match st.opd f with
    | .fn (.func f) a b => @call cx st dst f (a ++ args ++ b) K
    | .fn (.yield l) [] [] => @so _ cx.y ⟨fun p => l = p.1 ∧ @gives st args ⟨fun st args => @p.2 args st.om ⟨fun r om => r.wf → K.k ((⟨st.env, st.mem, om⟩ : St).set dst r)⟩⟩⟩
    | _ => False
  | .invoke r m => match st.opd r with
    | .ifc t v => @so _ (lkM cx.mt t m) ⟨fun f => @call cx st dst f (v :: args) K⟩
    | _ => False
  | .builtin .len => match args, tys with
    | [x], [t] => @ti cx t ⟨fun i => @lenV i.k x ⟨fun n => K.k (st.set dst (.z n))⟩⟩
    | _, _ => False
  | .builtin .append => match args, tys with
    | [x, y], [t, u] => @ti cx u ⟨fun ui => ui.k.isSl = true ∧ @append cx st dst t x y K⟩
    | _, _ => False
  | .builtin .copy => match args, tys with
    | [x, y], [t, _] => @copyTo cx st dst t x y K
    | _, _ => False
  | .builtin .clear => match args, tys with
    | [x], [t] => @clearAll cx st dst t x K
    | _, _ => False
  | .builtin .max => match args with
    | x :: l => @so _ (foldMx true x l) ⟨fun v => K.k (st.set dst v)⟩
    | _ => False
  | .builtin .min => match args with
    | x :: l => @so _ (foldMx false x l) ⟨fun v => K.k (st.set dst v)⟩
    | _ => False
  | _ => False
def ex (st : St) (dst : Option Tmp) (op : Op) [K : C St] : Prop :=
  match op with
  | .call c => @exCall cx st dst c.callee (c.args.toList.map st.opd) c.argTypes.toList K
  | .buildSlice t len ps => @ti cx t ⟨fun i => match i.k with
      | .slice e => @ti cx e ⟨fun ei => @gives st (ps.toList.map fun p => st.opd p.2) ⟨fun st vs => (uni ei.size ei.isAgg vs = true ∧ (ps.toList.all fun p => p.1 < len) = true ∧ len * ei.size ≤ 16777216 ∧ len ≤ most) ∧
          K.k (st.set dst (.lit (buildElems (List.replicate len ei.zero) ((ps.toList.map (·.1)).zip vs))))⟩⟩
      | _ => False⟩
  | op => @ex1 cx st dst op K
def guarded (st : St) (d : Tmp) (x : V) (w : Bool) [Y : C St] [N : C St] : Prop :=
  match x with
  | .b x => match w with
    | true => @spl x ⟨Y.k (st.set (some d) (.b true))⟩ ⟨N.k (st.set (some d) (.b false))⟩
    | false => @spl x ⟨N.k (st.set (some d) (.b true))⟩ ⟨Y.k (st.set (some d) (.b false))⟩
  | .tup _ => N.k st
  | _ => False
def exs (ds : List (Option Tmp)) : List Oper → St → [C St] → Prop
  | [], st, K => K.k st
  | o :: l, st, K => match o.guard with
    | none => @ex cx st o.dst o.op ⟨fun st => @exs ds l st K⟩
    | some (j, w) => @so _ (ds.getD j none) ⟨fun d => @guarded st d (st.env.getD d .u) w
        ⟨fun st => @ex cx st o.dst o.op ⟨fun st => @exs ds l st K⟩⟩ ⟨fun st => @exs ds l (st.set o.dst (.tup [])) K⟩⟩
def notObj : V → Prop
  | .obj _ _ => False
  | _ => True
def notOw (st : St) (c : Callee) (args : List V) : Prop :=
  match c, args with
  | .value f, _ => match st.opd f with
    | .fn (.yield _) _ _ => False
    | _ => True
  | _, _ => True
def seen (fl : Bool) (st : St) (op : Op) : Prop :=
  match fl, op with
  | true, .load _ a => notObj (st.opd a)
  | _, .call c => notOw st c.callee (c.args.toList.map st.opd)
  | _, _ => True
def exR (fl : Bool) (st : St) (dst : Option Tmp) (op : Op) [K : C St] : Prop :=
  seen fl st op ∧ @ex cx st dst op K
def exG (fl : Bool) (ops : List Oper) (o : Oper) (st : St) [K : C St] : Prop :=
  match o.guard with
  | none => @exR cx fl st o.dst o.op K
  | some (j, w) => @so _ ((ops.map (·.dst)).getD j none) ⟨fun d => @guarded st d (st.env.getD d .u) w ⟨fun st => @exR cx fl st o.dst o.op K⟩ ⟨fun st => K.k (st.set o.dst (.tup []))⟩⟩
def exT (fl : Bool) (ops : List Oper) : Sch → St → [C St] → Prop
  | .done, st, K => K.k st
  | .take i n, st, K => @so _ ops[i]? ⟨fun o => @exG cx fl ops o st ⟨fun st => @exT fl ops n st K⟩⟩
  | .alt i n r, st, K => @so _ ops[i]? ⟨fun o => @exG cx fl ops o st ⟨fun st => @exT fl ops n st K⟩⟩ ∧ @exT fl ops r st K
  | .no, _, _ => True
def leV (m : Mem) (a c : V) : Prop :=
  match c with
  | .u => True
  | .row h n len => a = .row h n len ∨ ((n = 0 ∧ len = 0) ∧ m.get h = none ∧ (a = .nils ∨ a = .lit []))
  | .sl xs => a = .sl xs ∨ a = .lit xs ∨ (xs = [] ∧ a = .nils)
  | c => a = c
def leE (m : Mem) : List V → List V → Prop
  | [], [] => True
  | a :: as, c :: cs => leV m a c ∧ leE m as cs
  | _, _ => False
def leM (m : Mem) : Mem → Prop
  | [] => True
  | (h, H) :: l => (m.get h = some H ∨ (m.get h = none ∧ H.els = [])) ∧ leM m l
mutual
def V.within (hs : List Nat) : V → Bool
  | .ref h _ _ _ _ => hs.contains h
  | .row h _ _ => hs.contains h
  | .mp h => hs.contains h
  | .mc ks vs => withins hs ks && withins hs vs
  | .arr p _ => V.within hs p
  | .agg cs => withins hs cs
  | .tup cs => withins hs cs
  | .fn _ a c => withins hs a && withins hs c
  | .ifc _ v => V.within hs v
  | _ => true
def withins (hs : List Nat) : List V → Bool
  | [] => true
  | v :: vs => V.within hs v && withins hs vs
end
def withinM (hs : List Nat) : Mem → Bool
  | [] => true
  | (_, H) :: m => withins hs H.els && withinM hs m
def St.le (s t : St) : Prop := leE s.mem s.env t.env ∧ leM s.mem t.mem ∧ OmKept t.om s.om ∧ withins (t.mem.map (·.1)) t.env = true ∧ withinM (t.mem.map (·.1)) t.mem = true
def loopR (st : St) [R : C2 St (C2 Ex St)] [Q : C2 Ex St] : Prop :=
  ∃ (σ : Type) (E : σ → St) (c : σ → Prop) (μ : σ → Nat), (∃ x, c x ∧ st.le (E x)) ∧
    ∀ x, c x → R.k (E x) ⟨fun | .nrm, s => ∃ y, c y ∧ s.le (E y) ∧ μ y < μ x | e, s => Q.k e s⟩
def condB (x : V) [A : P0] [B : P0] : Prop :=
  match x with
  | .b t => @spl t A B
  | _ => False
def clear1 (v : V) : V := match v.clean with | true => v | false => .u
def fillIn (env : List V) : List Tmp → List V → List V
  | t :: ts, v :: vs => fillIn (env.set t v) ts vs
  | _, _ => env
def rangeR (st : St) (g : V) (ps : List Tmp) [A : C2 St (C2 Ex St)] [R : C2 St (C2 Ex St)] [Q : C2 Ex St] : Prop :=
  match g with
  | .fn (.func f) [] caps => cleans caps = true ∧ @so _ (lkR cx.rs f) ⟨fun rc => ∃ cy : Cn,
      (∀ args om K, wfs args → @cy args om ⟨K⟩ → args.length = ps.length ∧
        A.k ⟨fillIn (st.env.map clear1) ps args, [], om⟩ ⟨fun | .nrm, st => R.k ⟨st.env.map clear1, [], st.om⟩ ⟨fun | .nrm, st => ∃ om', OmKept om' st.om ∧ K (.b true) om' | _, _ => False⟩ | _, _ => False⟩) ∧
      (∀ args om (K K' : V → Om → Prop), (∀ r om, K r om → K' r om) → @cy args om ⟨K⟩ → @cy args om ⟨K'⟩) ∧
      @rc cy caps st.om ⟨fun _ om => Q.k .nrm ⟨st.env.map clear1, [], om⟩⟩⟩
  | _ => False
def hasL (l : Nat) : Code → Bool
  | .seq a b => hasL l a || hasL l b
  | .label j => j == l
  | _ => false
def gotoR (l : Nat) (st : St) [A : C2 St (C2 Ex St)] [R : C2 St (C2 Ex St)] [Q : C2 Ex St] : Prop :=
  ∃ (σ : Type) (E : σ → St) (c : σ → Prop) (μ : σ → Nat), A.k st ⟨fun | .gt j, s => j = l ∧ ∃ x, c x ∧ s.le (E x) | e, s => Q.k e s⟩ ∧
    ∀ x, c x → R.k (E x) ⟨fun | .gt j, s => j = l ∧ ∃ y, c y ∧ s.le (E y) ∧ μ y < μ x | e, s => Q.k e s⟩
mutual
def wpc : Code → St → [C2 Ex St] → Prop
  | .skip, st, Q => Q.k .nrm st
  | .label _, st, Q => Q.k .nrm st
  | .ret, st, Q => Q.k .ret st
  | .exit id, st, Q => Q.k (.exit id) st
  | .seq a c, st, Q => @wpc a st ⟨fun | .nrm, st => @wpc c st Q | e, st => Q.k e st⟩
  | .cond x a c, st, Q => @condB (st.opd x) ⟨@wpc a st Q⟩ ⟨@wpc c st Q⟩
  | .block id c, st, Q => @wpc c st ⟨fun | .exit j, st => if j = id then Q.k .nrm st else Q.k (.exit j) st | e, st => Q.k e st⟩
  | .scope c, st, Q => match cx.gs with
    | none => @wpc c st ⟨fun | .gt _, _ => False | e, st => Q.k e st⟩
    | some l => match hasL l c with
      | false => @wpc c st ⟨fun | .gt j, st => j = l ∧ Q.k (.gt j) st | e, st => Q.k e st⟩
      | true => @gotoR l st ⟨fun st Q => @wpc c st Q⟩ ⟨fun st Q => @wpl l c st Q⟩ Q
  | .loop c, st, Q => @loopR st ⟨fun st Q => @wpc c st Q⟩ Q
  | .region _ ops false, st, Q => @exs cx (ops.toList.map (·.dst)) ops.toList st ⟨fun st => Q.k .nrm st⟩
  | .rangeFunc g ps assign c, st, Q => @rangeR cx st (st.opd g) ps.toList ⟨fun st Q => @wpc assign st Q⟩ ⟨fun st Q => @wpc c st Q⟩ Q
  | .region id ops true, st, Q => @so _ (lkS cx.sch id) ⟨fun p => @exT cx p.1 ops.toList p.2 st ⟨fun st => Q.k .nrm st⟩⟩
  | .goto l, st, Q => Q.k (.gt l) st
  | _, _, _ => False
def wpl (l : Nat) : Code → St → [C2 Ex St] → Prop
  | .seq a b, st, Q => match hasL l a with
    | true => @wpl l a st ⟨fun | .nrm, st => @wpc b st Q | e, st => Q.k e st⟩
    | false => @wpl l b st Q
  | .label _, st, Q => Q.k .nrm st
  | _, _, _ => False
end
def resOne (st : St) (r : ResultVar) [K : C V] : Prop :=
  match r with
  | .tmp t => K.k (st.env.getD t .u)
  | .cell t ty => @load cx st ty (st.env.getD t .u) K
def resAll (st : St) : List ResultVar → [C (List V)] → Prop
  | [], K => K.k []
  | r :: rs, K => @resOne cx st r ⟨fun v => @resAll st rs ⟨fun vs => K.k (v :: vs)⟩⟩
def told (vs : List V) : V :=
  match vs with
  | [v] => v
  | vs => .tup vs
def Om.del (om : Om) (id : Nat) : Om := fun k => if k = id then none else om k
def melt (om0 : Om) (st : St) (x : V) [K : C2 St V] : Prop :=
  match x with
  | .ow id off len _ => om0 id = none ∧ @so _ (st.om id) ⟨fun cs => (off + len ≤ cs.length ∧ uni 1 false ((cs.drop off).take len) = true) ∧ K.k ⟨st.env, st.mem, st.om.del id⟩ (.sl ((cs.drop off).take len))⟩
  | v => @give st v K
def melts (om0 : Om) (st : St) : List V → [C2 St (List V)] → Prop
  | [], K => K.k st []
  | x :: xs, K => @melt om0 st x ⟨fun st y => @melts om0 st xs ⟨fun st ys => K.k st (y :: ys)⟩⟩
def results (om0 : Om) (st : St) (rs : List ResultVar) [K : C2 V Om] : Prop :=
  @resAll cx st rs ⟨fun vs => match cx.md with
    | 0 => @gives st vs ⟨fun st vs => K.k (told vs) st.om⟩
    | 1 => @melts om0 st vs ⟨fun st vs => K.k (told vs) st.om⟩
    | _ => cleans vs = true ∧ K.k (told vs) st.om⟩
def body (fn : Func) (c : Code) (args : List V) (om : Om) (Q : V → Om → Prop) : Prop :=
  @wpc cx c ⟨args ++ List.replicate (fn.ntmps - args.length) .u, [], om⟩
    ⟨fun | .nrm, st => @results cx om st fn.results.toList ⟨Q⟩
         | .ret, st => @results cx om st fn.results.toList ⟨Q⟩
         | _, _ => False⟩
end
theorem C_k {α : Type} (f : α → Prop) (x : α) : @C.k α ⟨f⟩ x = f x := rfl
theorem C2_k {α β : Type} (f : α → β → Prop) (x : α) (y : β) : @C2.k α β ⟨f⟩ x y = f x y := rfl
theorem P0_p (A : Prop) : @P0.p ⟨A⟩ = A := rfl
attribute [go_sem] C_k C2_k P0_p spl_true spl_false spl_decide spl_not V.cells.eq_def V.isA.eq_def V.fits.eq_def uni.eq_def canSet.eq_def leV.eq_def TI.isAgg.eq_def Om.put.eq_def V.ofVal.eq_def St.opd.eq_def isCon.eq_def St.set.eq_def i64ok.eq_def pw.eq_def bin.eq_def binA.eq_def fit1.eq_def fitK.eq_1 fitK.eq_2 un.eq_def conv.eq_def rd.eq_def lenV.eq_def TK.isSl.eq_def TK.isIf.eq_def TK.isPt.eq_def TK.isStr.eq_def ti.eq_def so.eq_def part.eq_def atKey.eq_1 atKey.eq_2 atKey.eq_3 setKey.eq_1 setKey.eq_2 setKey.eq_3 keyOk.eq_def keyE.eq_def keyAt.eq_def mapAt.eq_def mapGet.eq_def mapSet.eq_def mapEnt.eq_def entStore.eq_def ixKey.eq_1 ixKey.eq_2 ixKey.eq_3 hasL.eq_1 hasL.eq_2 hasL.eq_3 fieldOf.eq_def addr.eq_def fieldAddr.eq_def ixOf.eq_1 ixOf.eq_2 indexAddr.eq_def indexV.eq_def elemGet.eq_def load.eq_def splice.eq_def elemSet.eq_def store.eq_def slice.eq_def build.eq_def home.eq_def nilCheck.eq_def pickB.eq_def opds.eq_def ex1.eq_def give1.eq_def give.eq_def isOb.eq_def thing.eq_def call.eq_def fresh.eq_def append.eq_def putAt.eq_def copyTo.eq_def clearAll.eq_def exCall.eq_def ex.eq_def guarded.eq_def St.le.eq_def condB.eq_def resOne.eq_def told.eq_def Om.del.eq_def melt.eq_def results.eq_def body.eq_def
attribute [go_sem] placeS.eq_1 placeS.eq_2 placeA.eq_1 placeA.eq_2 List.getElem?_cons_zero List.getElem?_cons_succ hasN.eq_1 hasN.eq_2 hasN.eq_3 Mem.get.eq_1 Mem.get.eq_2 Mem.put.eq_1 Mem.put.eq_2 lk.eq_1 lk.eq_2 fill.eq_1 fill.eq_2 buildElems.eq_1 buildElems.eq_2 gives.eq_1 gives.eq_2 gives1.eq_1 gives1.eq_2 foldMx.eq_1 foldMx.eq_2 foldMx.eq_3 foldMx.eq_4 foldMx.eq_5 exs.eq_1 exs.eq_2 leE.eq_1 leE.eq_2 leE.eq_3 leM.eq_1 leM.eq_2 wpc.eq_1 wpc.eq_2 wpc.eq_3 wpc.eq_4 wpc.eq_5 wpc.eq_6 wpc.eq_7 wpc.eq_8 wpc.eq_9 wpc.eq_10 wpc.eq_11 wpc.eq_12 wpc.eq_13 wpc.eq_14 wpl.eq_1 wpl.eq_2 clear1.eq_def fillIn.eq_1 lkR.eq_1 lkR.eq_2 lkM.eq_1 lkM.eq_2 notObj.eq_def notOw.eq_def seen.eq_def exR.eq_def exG.eq_def exT.eq_1 exT.eq_2 exT.eq_3 exT.eq_4 lkS.eq_1 lkS.eq_2 resAll.eq_1 resAll.eq_2 melts.eq_1 melts.eq_2 withins.eq_1 withins.eq_2 cleans.eq_1 cleans.eq_2 withinM.eq_1 withinM.eq_2 wfs.eq_1 wfs.eq_2 V.wf.eq_1 V.wf.eq_2 V.wf.eq_3 V.wf.eq_4 V.wf.eq_5 V.wf.eq_6 V.wf.eq_7 V.wf.eq_8 V.wf.eq_9 V.wf.eq_10 V.wf.eq_11 V.wf.eq_12 V.clean.eq_1 V.clean.eq_2 V.clean.eq_3 V.clean.eq_4 V.clean.eq_5 V.clean.eq_6 V.clean.eq_7 V.clean.eq_8 V.clean.eq_9 V.clean.eq_10 V.within.eq_1 V.within.eq_2 V.within.eq_3 V.within.eq_4 V.within.eq_5 V.within.eq_6 V.within.eq_7 V.within.eq_8 V.within.eq_9 V.within.eq_10
attribute [go_sem] List.getD_cons_zero List.getD_cons_succ List.set_cons_zero List.set_cons_succ List.set_nil List.getD_nil List.length_cons List.length_nil List.replicate_succ List.replicate_zero List.cons_append List.nil_append List.append_nil List.map_cons List.map_nil Option.some.injEq forall_const true_implies false_implies implies_true and_true true_and and_self Bool.false_eq_true Bool.true_eq_false if_true if_false V.b.injEq Option.getD_some Option.getD_none decide_eq_true_eq decide_eq_false_iff_not not_true_eq_false not_false_eq_true Bool.not_true Bool.not_false Bool.not_eq_true' Bool.not_eq_false' IntKind.signed.eq_def Int.toNat_natCast Option.map_some Option.map_none Bool.and_true Bool.true_and Bool.and_self V.n.injEq V.z.injEq V.sl.injEq V.lit.injEq V.row.injEq V.agg.injEq V.tup.injEq V.ref.injEq V.ifc.injEq V.obj.injEq V.arr.injEq V.ow.injEq V.mp.injEq V.fn.injEq Fn.func.injEq List.cons.injEq List.all_cons List.all_nil List.zip_cons_cons List.zip_nil_right List.isEmpty_cons List.isEmpty_nil beq_self_eq_true Bool.not_eq_eq_eq_not
end Go.Proofs.YteomkgcepiecjaaGreat.I
/- What an ideal value says of a real one; and that it goes on to say so. -/
namespace Go.Proofs.YteomkgcepiecjaaGreat.I
open Go
structure Lay where
  w : World
  S : Nat → Nat → Prop
  live : Nat → Prop
  j : Nat → Nat × Nat
  cap : Nat → Nat
  L : Nat → Nat
def Lay.at (X : Lay) (b o : Nat) : Option Value := X.w.cell? ⟨b, o, none⟩
inductive Rep (X : Lay) : Value → V → Prop
  | u (v : Value) : Rep X v .u
  | b (x : Bool) : Rep X (.bool x) (.b x)
  | n (k : IntKind) (x : Nat) : k.signed = false → x < 2 ^ k.bits → Rep X (.int k x) (.n k x)
  | z (x : Int) : i64ok x → Rep X (.int .i64 x) (.z x)
  | s (x : ByteArray) : x.size ≤ maxLen → Rep X (.string x) (.s x)
  | sl0 (a : Option Addr) (c : Nat) : Rep X (.slice a 0 c) (.sl [])
  | sl (b o c es : Nat) (xs : List V) (vals : Nat → Value) : xs.length ≤ c → c ≤ maxLen → cleans xs = true → (∀ x ∈ xs, x.cells.length = es) →
      (∀ k, k < (flat xs).length → X.S b (o + k) ∧ X.at b (o + k) = some (vals k) ∧ (vals k).oneCell' = true) → (∀ k (h : k < (flat xs).length), Rep X (vals k) (flat xs)[k]) →
      Rep X (.slice (some ⟨b, o, none⟩) xs.length c) (.sl xs)
  | lit (b o : Nat) (es : Nat) (xs : List V) (vals : Nat → Value) : xs.length ≤ maxLen → cleans xs = true → (∀ x ∈ xs, x.cells.length = es) →
      (∀ k, k < (flat xs).length → X.S b (o + k) ∧ X.at b (o + k) = some (vals k) ∧ (vals k).oneCell' = true) → (∀ k (h : k < (flat xs).length), Rep X (vals k) (flat xs)[k]) →
      Rep X (.slice (some ⟨b, o, none⟩) xs.length xs.length) (.lit xs)
  | nils : Rep X (.slice none 0 0) .nils
  | agg (vs : Array Value) (cs : List V) : vs.size = cs.length → (∀ v ∈ vs, v.oneCell' = true) → (∀ k (h : k < cs.length) (h' : k < vs.size), Rep X vs[k] cs[k]) → Rep X (.agg vs) (.agg cs)
  | tup (vs : Array Value) (cs : List V) : vs.size = cs.length → (∀ k (h : k < cs.length) (h' : k < vs.size), Rep X vs[k] cs[k]) → Rep X (.tuple vs) (.tup cs)
  | fn (f : Fn) (vs : Array Value) (cs : List V) (us : Array Value) (ds : List V) : vs.size = cs.length → us.size = ds.length →
      (∀ k (h : k < cs.length) (h' : k < vs.size), Rep X vs[k] cs[k]) → (∀ k (h : k < ds.length) (h' : k < us.size), Rep X us[k] ds[k]) → Rep X (.func f vs us) (.fn f cs ds)
  | nilf : Rep X .nilFunc .nilf
  | ifc (t : TypeId) (v : Value) (x : V) : Rep X v x → Rep X (.iface t v) (.ifc t x)
  | nili : Rep X .nilIface .nili
  | ref (h m es i off : Nat) (b o : Nat) : X.live h → m ≤ X.L h → (m = X.L h → b = (X.j h).1 ∧ o = (X.j h).2 + (i * es + off)) → Rep X (.pointer (some ⟨b, o, none⟩)) (.ref h m es i off)
  | pc (b o : Nat) (cs : List V) (off : Nat) (vals : Nat → Value) : cleans cs = true →
      (∀ k, k < cs.length → X.S b (o + k) ∧ X.at b (o + k) = some (vals k) ∧ (vals k).oneCell' = true) → (∀ k (h : k < cs.length), Rep X (vals k) cs[k]) →
      Rep X (.pointer (some ⟨b, o + off, none⟩)) (.pc cs off)
  | obj (id off : Nat) : Rep X (.pointer (some ⟨id, off, none⟩)) (.obj id off)
  | nilp : Rep X (.pointer none) .nilp
  | row (h m len : Nat) (a : Option Addr) (c : Nat) : X.live h → m ≤ X.L h → len ≤ m → len ≤ c → c ≤ maxLen → (a = none → len = 0) → (m = X.L h → c = X.cap h ∧ (0 < X.cap h → a = some ⟨(X.j h).1, (X.j h).2, none⟩)) → Rep X (.slice a len c) (.row h m len)
  | ow (id off len cap : Nat) (ad : Addr) : len ≤ cap → cap ≤ maxLen → (0 < cap → ad = ⟨id, off, none⟩) → Rep X (.slice (some ad) len cap) (.ow id off len cap)
  | nilm : Rep X (.map none) .nilm
  | mp (h b : Nat) : X.live h → 1 ≤ X.L h → (X.L h = 1 → b = (X.j h).1 ∧ X.cap h = 0) → Rep X (.map (some b)) (.mp h)
  | arr (a : Option Addr) (len c : Nat) (p : V) (ad : Addr) : Rep X (.pointer (some ad)) p → len ≤ c → len ≤ maxLen → (0 < len → a = some ad) → Rep X (.slice a len c) (.arr p len)
theorem cleans_iff (xs : List V) : cleans xs = true ↔ ∀ x ∈ xs, x.clean = true := by
  induction xs with
  | nil => simp [cleans]
  | cons x xs ih => simp [cleans, ih]
theorem withins_iff (hs : List Nat) (xs : List V) : withins hs xs = true ↔ ∀ x ∈ xs, x.within hs = true := by
  induction xs with
  | nil => simp [withins]
  | cons x xs ih => simp [withins, ih]
theorem clean_cells {x : V} (h : x.clean = true) : cleans x.cells = true := by
  cases x <;> simp_all [V.cells, V.clean, cleans]
theorem cleans_flat {xs : List V} (h : cleans xs = true) : ∀ y ∈ flat xs, y.clean = true := by
  intro y hy
  obtain ⟨x, hx, hy⟩ := List.mem_flatMap.1 hy
  exact (cleans_iff _).1 (clean_cells ((cleans_iff _).1 h x hx)) y hy
structure Lay.Le (X Y : Lay) : Prop where
  S : ∀ b o, X.S b o → Y.S b o
  w : ∀ b o, X.S b o → Y.at b o = X.at b o
  live : ∀ h, X.live h → Y.live h
  hm : ∀ h, X.live h → (Y.L h = X.L h ∧ Y.j h = X.j h ∧ Y.cap h = X.cap h) ∨ X.L h < Y.L h
theorem Lay.Le.refl (X : Lay) : X.Le X := ⟨fun _ _ h => h, fun _ _ _ => rfl, fun _ h => h, fun _ _ => .inl ⟨rfl, rfl, rfl⟩⟩
theorem Rep.mono {X Y : Lay} (le : X.Le Y) {v : Value} {x : V} (h : Rep X v x) : Rep Y v x := by
  induction h with
  | u v => exact .u v
  | b x => exact .b x
  | n k x h1 h2 => exact .n k x h1 h2
  | z x h => exact .z x h
  | s x h => exact .s x h
  | sl0 a c => exact .sl0 a c
  | sl b o c es xs vals hc hcm hcl hu hs _ ih =>
    exact .sl b o c es xs vals hc hcm hcl hu (fun k hk => ⟨le.S _ _ (hs k hk).1, (le.w _ _ (hs k hk).1).trans (hs k hk).2.1, (hs k hk).2.2⟩) ih
  | lit b o es xs vals hcm hcl hu hs _ ih =>
    exact .lit b o es xs vals hcm hcl hu (fun k hk => ⟨le.S _ _ (hs k hk).1, (le.w _ _ (hs k hk).1).trans (hs k hk).2.1, (hs k hk).2.2⟩) ih
  | nils => exact .nils
  | agg vs cs hz h1 _ ih => exact .agg vs cs hz h1 ih
  | tup vs cs hz _ ih => exact .tup vs cs hz ih
  | fn f vs cs us ds h1 h2 _ _ i1 i2 => exact .fn f vs cs us ds h1 h2 i1 i2
  | nilf => exact .nilf
  | ifc t v x _ ih => exact .ifc t v x ih
  | nili => exact .nili
  | ref h m es i off b o hl hm hv =>
    refine .ref h m es i off b o (le.live _ hl) ?_ ?_
    · rcases le.hm h hl with ⟨h1, _, _⟩ | h1 <;> omega
    · intro e
      rcases le.hm h hl with ⟨h1, h2, h3⟩ | h1
      · rw [h2]; exact hv (by omega)
      · omega
  | pc b o cs off vals hcl hs _ ih =>
    exact .pc b o cs off vals hcl (fun k hk => ⟨le.S _ _ (hs k hk).1, (le.w _ _ (hs k hk).1).trans (hs k hk).2.1, (hs k hk).2.2⟩) ih
  | obj id off => exact .obj id off
  | nilp => exact .nilp
  | row h m len a c hl hm hk hc hcm hn hv =>
    refine .row h m len a c (le.live _ hl) ?_ hk hc hcm hn ?_
    · rcases le.hm h hl with ⟨h1, _, _⟩ | h1 <;> omega
    · intro e
      rcases le.hm h hl with ⟨h1, h2, h3⟩ | h1
      · rw [h2, h3]; exact hv (by omega)
      · omega
  | ow id off len cap ad h1 h2 h3 => exact .ow id off len cap ad h1 h2 h3
  | nilm => exact .nilm
  | mp h b hl hm hv =>
    refine .mp h b (le.live _ hl) ?_ fun e => ?_
    · rcases le.hm h hl with ⟨h1, _, _⟩ | h1 <;> omega
    · rcases le.hm h hl with ⟨h1, h2, h3⟩ | h1
      · rw [h2, h3]; exact hv (by omega)
      · omega
  | arr a len c p ad _ h1 h2 h3 ih => exact .arr a len c p ad ih h1 h2 h3
theorem Rep.move {X Y : Lay} (hS : ∀ b o, X.S b o → Y.S b o) (hw : ∀ b o, X.S b o → Y.at b o = X.at b o) {v : Value} {x : V} (h : Rep X v x) : x.clean = true → Rep Y v x := by
  induction h with
  | u v => exact fun _ => .u v
  | b x => exact fun _ => .b x
  | n k x h1 h2 => exact fun _ => .n k x h1 h2
  | z x h => exact fun _ => .z x h
  | s x h => exact fun _ => .s x h
  | sl0 a c => exact fun _ => .sl0 a c
  | sl b o c es xs vals hc hcm hcl hu hs _ ih =>
    exact fun _ => .sl b o c es xs vals hc hcm hcl hu (fun k hk => ⟨hS _ _ (hs k hk).1, (hw _ _ (hs k hk).1).trans (hs k hk).2.1, (hs k hk).2.2⟩) fun k hk => ih k hk (cleans_flat hcl _ (List.getElem_mem _))
  | lit b o es xs vals hcm hcl hu hs _ ih =>
    exact fun _ => .lit b o es xs vals hcm hcl hu (fun k hk => ⟨hS _ _ (hs k hk).1, (hw _ _ (hs k hk).1).trans (hs k hk).2.1, (hs k hk).2.2⟩) fun k hk => ih k hk (cleans_flat hcl _ (List.getElem_mem _))
  | nils => exact fun _ => .nils
  | agg vs cs hz h1 _ ih => exact fun h => .agg vs cs hz h1 fun k hk hk' => ih k hk hk' ((cleans_iff _).1 (by simpa [V.clean] using h) _ (List.getElem_mem _))
  | tup vs cs hz _ ih => exact fun h => .tup vs cs hz fun k hk hk' => ih k hk hk' ((cleans_iff _).1 (by simpa [V.clean] using h) _ (List.getElem_mem _))
  | fn f vs cs us ds h1 h2 _ _ i1 i2 =>
    intro h
    simp only [V.clean, Bool.and_eq_true] at h
    exact .fn f vs cs us ds h1 h2 (fun k hk hk' => i1 k hk hk' ((cleans_iff _).1 h.1 _ (List.getElem_mem _))) fun k hk hk' => i2 k hk hk' ((cleans_iff _).1 h.2 _ (List.getElem_mem _))
  | nilf => exact fun _ => .nilf
  | ifc t v x _ ih => exact fun h => .ifc t v x (ih (by simpa [V.clean] using h))
  | nili => exact fun _ => .nili
  | ref h m es i off b o hl hm hv => exact fun h => by simp [V.clean] at h
  | pc b o cs off vals hcl hs _ ih =>
    exact fun _ => .pc b o cs off vals hcl (fun k hk => ⟨hS _ _ (hs k hk).1, (hw _ _ (hs k hk).1).trans (hs k hk).2.1, (hs k hk).2.2⟩) fun k hk => ih k hk ((cleans_iff _).1 hcl _ (List.getElem_mem _))
  | obj id off => exact fun _ => .obj id off
  | nilp => exact fun _ => .nilp
  | row h m len a c hl hm hk hc hcm hn hv => exact fun h => by simp [V.clean] at h
  | ow id off len cap ad h1 h2 h3 => exact fun _ => .ow id off len cap ad h1 h2 h3
  | nilm => exact fun _ => .nilm
  | mp h b hl hm hv => exact fun h => by simp [V.clean] at h
  | arr a len c p ad _ h1 h2 h3 ih => exact fun h => .arr a len c p ad (ih (by simpa [V.clean] using h)) h1 h2 h3
theorem Rep.drop' {X : Lay} {hs : List Nat} {L' cap' : Nat → Nat} (hag : ∀ h, X.live h → L' h = X.L h ∧ cap' h = X.cap h) {v : Value} {x : V} (h : Rep X v x) : x.within hs = true → Rep { X with live := (· ∈ hs), L := L', cap := cap' } v x := by
  induction h with
  | u v => exact fun _ => .u v
  | b x => exact fun _ => .b x
  | n k x h1 h2 => exact fun _ => .n k x h1 h2
  | z x h => exact fun _ => .z x h
  | s x h => exact fun _ => .s x h
  | sl0 a c => exact fun _ => .sl0 a c
  | sl b o c es xs vals hc hcm hcl hu hs' hr ih =>
    exact fun _ => .sl b o c es xs vals hc hcm hcl hu hs' fun k hk => Rep.move (X := X) (Y := { X with live := (· ∈ hs), L := L', cap := cap' }) (fun _ _ h => h) (fun _ _ _ => rfl) (hr k hk) (cleans_flat hcl _ (List.getElem_mem _))
  | lit b o es xs vals hcm hcl hu hs' hr ih =>
    exact fun _ => .lit b o es xs vals hcm hcl hu hs' fun k hk => Rep.move (X := X) (Y := { X with live := (· ∈ hs), L := L', cap := cap' }) (fun _ _ h => h) (fun _ _ _ => rfl) (hr k hk) (cleans_flat hcl _ (List.getElem_mem _))
  | nils => exact fun _ => .nils
  | agg vs cs hz h1 _ ih => exact fun h => .agg vs cs hz h1 fun k hk hk' => ih k hk hk' ((withins_iff _ _).1 (by simpa [V.within] using h) _ (List.getElem_mem _))
  | tup vs cs hz _ ih => exact fun h => .tup vs cs hz fun k hk hk' => ih k hk hk' ((withins_iff _ _).1 (by simpa [V.within] using h) _ (List.getElem_mem _))
  | fn f vs cs us ds h1 h2 _ _ i1 i2 =>
    intro h
    simp only [V.within, Bool.and_eq_true] at h
    exact .fn f vs cs us ds h1 h2 (fun k hk hk' => i1 k hk hk' ((withins_iff _ _).1 h.1 _ (List.getElem_mem _))) fun k hk hk' => i2 k hk hk' ((withins_iff _ _).1 h.2 _ (List.getElem_mem _))
  | nilf => exact fun _ => .nilf
  | ifc t v x _ ih => exact fun h => .ifc t v x (ih (by simpa [V.within] using h))
  | nili => exact fun _ => .nili
  | ref h m es i off b o hl hm hv => exact fun h => .ref _ m es i off b o (by simpa [V.within] using h) (by show m ≤ L' _; rw [(hag _ hl).1]; exact hm) (fun e => hv (by have e : m = L' _ := e; rw [(hag _ hl).1] at e; exact e))
  | pc b o cs off vals hcl hs' hr ih =>
    exact fun _ => .pc b o cs off vals hcl hs' fun k hk => Rep.move (X := X) (Y := { X with live := (· ∈ hs), L := L', cap := cap' }) (fun _ _ h => h) (fun _ _ _ => rfl) (hr k hk) ((cleans_iff _).1 hcl _ (List.getElem_mem _))
  | obj id off => exact fun _ => .obj id off
  | nilp => exact fun _ => .nilp
  | row h m len a c hl hm hk hc hcm hn hv => exact fun h => .row _ m len a c (by simpa [V.within] using h) (by show m ≤ L' _; rw [(hag _ hl).1]; exact hm) hk hc hcm hn (fun e => by show c = cap' _ ∧ (0 < cap' _ → _); rw [(hag _ hl).2]; exact hv (by have e : m = L' _ := e; rw [(hag _ hl).1] at e; exact e))
  | ow id off len cap ad h1 h2 h3 => exact fun _ => .ow id off len cap ad h1 h2 h3
  | nilm => exact fun _ => .nilm
  | mp h b hl hm hv => exact fun hw => .mp _ b (by simpa [V.within] using hw) (by show 1 ≤ L' _; rw [(hag _ hl).1]; exact hm) (fun e => by show b = _ ∧ cap' _ = 0; rw [(hag _ hl).2]; exact hv (by have e : L' _ = 1 := e; rw [(hag _ hl).1] at e; exact e))
  | arr a len c p ad _ h1 h2 h3 ih => exact fun h => .arr a len c p ad (ih (by simpa [V.within] using h)) h1 h2 h3
theorem wfs_iff (xs : List V) : wfs xs ↔ ∀ x ∈ xs, x.wf := by
  induction xs with
  | nil => simp [wfs]
  | cons x xs ih => simp [wfs, ih]
theorem wf_of_cells {x : V} (h : ∀ y ∈ x.cells, y.wf) : x.wf := by
  cases x <;> first | (simp only [V.wf]; exact (wfs_iff _).2 h; done) | exact h _ (List.mem_singleton.2 rfl) | trivial
theorem wfs_of_flat {xs : List V} (h : ∀ k (h : k < (flat xs).length), ((flat xs)[k]).wf) : wfs xs := by
  refine (wfs_iff _).2 fun x hx => wf_of_cells fun y hy => ?_
  obtain ⟨k, hk, e⟩ := List.mem_iff_getElem.1 (show y ∈ flat xs from List.mem_flatMap.2 ⟨x, hx, hy⟩)
  rw [← e]; exact h k hk
theorem wfs_of_get {xs : List V} (h : ∀ k (h : k < xs.length), (xs[k]).wf) : wfs xs := by
  refine (wfs_iff _).2 fun x hx => ?_
  obtain ⟨k, hk, e⟩ := List.mem_iff_getElem.1 hx
  rw [← e]; exact h k hk
theorem Rep.wf {X : Lay} {v : Value} {x : V} (h : Rep X v x) : x.wf := by
  induction h with
  | n k x h1 h2 => exact h2
  | z x h => exact h
  | s x h => exact h
  | sl0 a c => exact ⟨Nat.zero_le _, trivial⟩
  | sl b o c es xs vals hc hcm hcl hu hs _ ih => exact ⟨Nat.le_trans hc hcm, wfs_of_flat ih⟩
  | lit b o es xs vals hcm hcl hu hs _ ih => exact ⟨hcm, wfs_of_flat ih⟩
  | agg vs cs hz h1 _ ih => exact wfs_of_get fun k hk => ih k hk (by omega)
  | tup vs cs hz _ ih => exact wfs_of_get fun k hk => ih k hk (by omega)
  | fn f vs cs us ds h1 h2 _ _ i1 i2 => exact ⟨wfs_of_get fun k hk => i1 k hk (by omega), wfs_of_get fun k hk => i2 k hk (by omega)⟩
  | ifc t v x _ ih => exact ih
  | pc b o cs off vals hcl hs _ ih => exact wfs_of_get ih
  | ow id off len cap ad h1 h2 h3 => exact ⟨h1, h2⟩
  | _ => trivial
end Go.Proofs.YteomkgcepiecjaaGreat.I
/- How an ideal state lies in a world. -/
namespace Go.Proofs.YteomkgcepiecjaaGreat.I
open Go
structure Base where
  w : World
  S : Nat → Nat → Prop
  om : Om
  ds : List Deferred
def TK.fits (P : Program) (k : TK) (d : TypeDesc) : Prop :=
  match k with
  | .int k => d = .int k
  | .bool => d = .bool
  | .slice e => d = .slice e
  | .struct fs => ∃ F : Array Field, d = .struct F ∧ fs = F.toList.map (fun f => (f.offset, f.type)) ∧ ∀ f ∈ F, ∃ inf, P.info? f.type = some inf ∧ inf.size ≠ 0
  | .array n e => d = .array n e
  | .ptr e => d = .pointer e
  | .string => d = .string
  | .map k e => d = .map k e
  | .iface => ∃ ms, d = .interface ms
  | .other => (∀ F, d ≠ .struct F) ∧ ∀ n e, d ≠ .array n e
structure TOk (P : Program) (t : TypeId) (i : TI) : Prop where
  ex : ∃ (inf : TypeInfo) (z : Value) (d : TypeDesc), P.info? t = some inf ∧ inf.size = i.size ∧ inf.bytes = i.bytes ∧ inf.zero = some z ∧ P.underlying t = some d ∧ i.k.fits P d ∧
    (∀ X, Rep X z i.zero) ∧ z.cells.size = i.size ∧ (∀ v ∈ z.cells, v.oneCell' = true)
  cl : i.zero.clean = true
  ft : i.zero.fits i.size i.isAgg = true
  sz : i.isAgg = false → i.size = 1
  cn : i.cn = true → P.concrete t = true
inductive RepL (X : Lay) : List Value → List V → Prop
  | nil : RepL X [] []
  | cons {v : Value} {x : V} {vs : List Value} {xs : List V} : Rep X v x → RepL X vs xs → RepL X (v :: vs) (x :: xs)
def Fixed (X : Lay) (b o : Nat) (cs : List V) : Prop :=
  ∃ vals : Nat → Value, (∀ k, k < cs.length → X.S b (o + k) ∧ X.at b (o + k) = some (vals k) ∧ (vals k).oneCell' = true) ∧ ∀ k (h : k < cs.length), Rep X (vals k) cs[k]
def Cells (X : Lay) (b : Nat) (n : Nat) (cs : List V) : Prop :=
  ∃ (cur : Array Value) (ty : TypeId), X.w.heap[b]? = some (.cells cur ty (0, 0)) ∧ cur.size = n ∧ cs.length ≤ n ∧
    (∀ k (_ : k < cs.length) (h' : k < cur.size), Rep X cur[k] cs[k] ∧ (cur[k]).oneCell' = true)
def Born (es : Array MapEntry) (ck : Nat) : Prop := ck = es.size ∧ ∀ (j : Nat) (e : MapEntry), es[j]? = some e → e.born = j
def MapIn (B : Base) (X : Lay) (b : Nat) (H : Hm) : Prop :=
  ∃ ks vs es ck, H = ⟨0, true, [.mc ks vs], true⟩ ∧ X.w.heap[b]? = some (.map es ck) ∧ B.w.heap.size ≤ b ∧ (∀ o, ¬ X.S b o) ∧
    RepL X (es.toList.map (·.key)) ks ∧ RepL X (es.toList.map (·.val)) vs ∧ Born es ck
structure Home (B : Base) (X : Lay) (own : Nat → Prop) (h : Nat) (H : Hm) : Prop where
  L : X.L h = H.els.length
  uni : uni H.es H.ag H.els = true
  lay : (own h ∧ (X.j h).2 = 0 ∧ H.els.length ≤ X.cap h ∧ X.cap h ≤ maxLen ∧ Cells X (X.j h).1 (X.cap h * H.es) (flat H.els) ∧ B.w.heap.size ≤ (X.j h).1 ∧
          (∀ o, X.S (X.j h).1 o → H.fz = true ∧ o < (flat H.els).length)) ∨
        (¬ own h ∧ X.cap h = H.els.length ∧ (H.fz = true ∨ H.els = []) ∧ Fixed X (X.j h).1 (X.j h).2 (flat H.els)) ∨
        (own h ∧ X.cap h = 0 ∧ MapIn B X (X.j h).1 H)
structure Thing (X : Lay) (id : Nat) (cs : List V) : Prop where
  cl : cleans cs = true
  cells : Cells X id cs.length cs
  S : ∀ o, ¬ X.S id o
structure Grown (w w' : World) : Prop where
  size : w.heap.size ≤ w'.heap.size
  os : w'.os = w.os
  tape : w'.tape = w.tape
  output : w'.output = w.output
theorem Grown.refl (w : World) : Grown w w := ⟨Nat.le_refl _, rfl, rfl, rfl⟩
theorem Grown.trans {a b c : World} (h : Grown a b) (g : Grown b c) : Grown a c := ⟨Nat.le_trans h.size g.size, g.os.trans h.os, g.tape.trans h.tape, g.output.trans h.output⟩
theorem Grown.alloc {a b : World} (h : Grown a b) (o : Obj) : Grown a (b.alloc o) := ⟨by have := h.size; simp only [World.alloc, Array.size_push]; omega, h.os, h.tape, h.output⟩
structure Still (w w' : World) : Prop where
  heap : w'.heap = w.heap
  os : w'.os = w.os
  tape : w'.tape = w.tape
  output : w'.output = w.output
theorem Grown.still {a b c : World} (h : Grown a b) (g : Still b c) : Grown a c := ⟨by rw [g.heap]; exact h.size, g.os.trans h.os, g.tape.trans h.tape, g.output.trans h.output⟩
structure Rel (B : Base) (X : Lay) (own : Nat → Prop) (st : St) (a : Act) : Prop where
  tm : a.tmps.size = st.env.length
  rp : ∀ k (h : k < st.env.length) (h' : k < a.tmps.size), Rep X a.tmps[k] st.env[k]
  df : a.defers = B.ds
  lv : ∀ h, X.live h ↔ (st.mem.get h).isSome
  hm : ∀ h H, st.mem.get h = some H → Home B X own h H
  ij : ∀ h h', X.live h → X.live h' → own h → own h' → (X.j h).1 = (X.j h').1 → h = h'
  dj : ∀ h, X.live h → own h → st.om (X.j h).1 = none
  ob : ∀ id cs, st.om id = some cs → Thing X id cs
  sb : ∀ b o, X.S b o → b < X.w.heap.size
  fn : Grown B.w X.w
  fb : ∀ b, b < B.w.heap.size → B.om b = none → X.w.heap[b]? = B.w.heap[b]?
  fS : ∀ b o, B.S b o → X.S b o
  fS' : ∀ b o, X.S b o → b < B.w.heap.size → B.S b o
  fo : ∀ id, st.om id ≠ none → id < B.w.heap.size → B.om id ≠ none
theorem Fixed.mono {X Y : Lay} (le : X.Le Y) {b o : Nat} {cs : List V} (h : Fixed X b o cs) : Fixed Y b o cs :=
  let ⟨vals, h1, h2⟩ := h
  ⟨vals, fun k hk => ⟨le.S _ _ (h1 k hk).1, (le.w _ _ (h1 k hk).1).trans (h1 k hk).2.1, (h1 k hk).2.2⟩, fun k hk => (h2 k hk).mono le⟩
theorem Cells.mono {X Y : Lay} (le : X.Le Y) {b n : Nat} {cs : List V} (hb : Y.w.heap[b]? = X.w.heap[b]?) (h : Cells X b n cs) : Cells Y b n cs :=
  let ⟨cur, ty, h1, h2, h3, h4⟩ := h
  ⟨cur, ty, hb.trans h1, h2, h3, fun k hk hk' => ⟨((h4 k hk hk').1).mono le, (h4 k hk hk').2⟩⟩
theorem Rep.sl_fixed {X : Lay} {b o c es : Nat} {xs : List V} (hc : xs.length ≤ c) (hcm : c ≤ maxLen) (hcl : cleans xs = true) (hu : ∀ x ∈ xs, x.cells.length = es) (h : Fixed X b o (flat xs)) :
    Rep X (.slice (some ⟨b, o, none⟩) xs.length c) (.sl xs) :=
  let ⟨vals, h1, h2⟩ := h
  .sl b o c es xs vals hc hcm hcl hu h1 h2
theorem Rep.pc_fixed {X : Lay} {b o off : Nat} {cs : List V} (hcl : cleans cs = true) (h : Fixed X b o cs) : Rep X (.pointer (some ⟨b, o + off, none⟩)) (.pc cs off) :=
  let ⟨vals, h1, h2⟩ := h
  .pc b o cs off vals hcl h1 h2
theorem Rel.get {B : Base} {X : Lay} {own : Nat → Prop} {st : St} {a : Act} (R : Rel B X own st a) (t : Tmp) : Rep X (a.tmps.getD t undef) (st.env.getD t .u) := by
  by_cases h : t < st.env.length
  · have h' : t < a.tmps.size := by rw [R.tm]; exact h
    have := R.rp t h h'
    simpa [Array.getD, List.getD, h, h'] using this
  · have e : st.env.getD t .u = .u := by simp [List.getD, List.getElem?_eq_none (Nat.le_of_not_lt h)]
    rw [e]; exact .u _
theorem Rel.set {B : Base} {X : Lay} {own : Nat → Prop} {st : St} {a : Act} (R : Rel B X own st a) (dst : Option Tmp) {v : Value} {x : V} (h : Rep X v x) : Rel B X own (st.set dst x) (a.put dst v) := by
  cases dst with
  | none => exact R
  | some d =>
    refine { R with tm := ?_, rp := ?_, df := R.df, lv := R.lv, hm := R.hm, ob := R.ob, fo := R.fo, dj := R.dj }
    · simp [Act.put, St.set, R.tm]
    · intro k hk hk'
      simp only [St.set, List.length_set] at hk
      simp only [Act.put, Array.size_setIfInBounds] at hk'
      by_cases e : d = k
      · subst e
        simp only [Act.put, St.set, List.getElem_set_self, Array.getElem_setIfInBounds_self]
        exact h
      · have e1 : (a.put (some d) v).tmps[k]'(by simpa [Act.put] using hk') = a.tmps[k] := by
          simp only [Act.put]; exact Array.getElem_setIfInBounds_ne hk' e
        have e2 : (st.set (some d) x).env[k]'(by simpa [St.set] using hk) = st.env[k] := by
          simp only [St.set]; exact List.getElem_set_ne e _
        rw [e1, e2]; exact R.rp k hk hk'
def goodV : Value → Bool
  | .int .i64 x => -9223372036854775808 ≤ x && x ≤ 9223372036854775807
  | .int k x => !k.signed && 0 ≤ x && x < 2 ^ k.bits
  | .string x => x.size ≤ maxLen
  | _ => true
theorem rep_ofVal (X : Lay) {v : Value} (h : goodV v = true) : Rep X v (V.ofVal v) := by
  cases v with
  | bool x => exact .b x
  | int k x =>
    cases k <;> simp [goodV, IntKind.signed] at h <;> simp only [V.ofVal]
    case i64 => exact .z x (by simp [i64ok]; omega)
    all_goals
      obtain ⟨h0, h1⟩ := h
      obtain ⟨m, rfl⟩ := Int.eq_ofNat_of_zero_le h0
      refine .n _ m rfl ?_
      simp only [IntKind.bits] at h1 ⊢
      omega
  | string x => exact .s x (by simpa [goodV] using h)
  | slice a n c => cases a <;> cases n <;> cases c <;> first | exact .nils | exact .u _
  | map a => cases a <;> first | exact .nilm | exact .u _
  | pointer a => cases a <;> first | exact .nilp | exact .u _
  | nilIface => exact .nili
  | nilFunc => exact .nilf
  | _ => exact .u _
def goodO : Operand → Bool
  | .const v => goodV v
  | _ => true
theorem Rel.opd {B : Base} {X : Lay} {own : Nat → Prop} {st : St} {a : Act} (R : Rel B X own st a) {x : Operand} (h : goodO x = true) : Rep X (a.eval x) (st.opd x) := by
  cases x with
  | tmp t => exact R.get t
  | const v => exact rep_ofVal X h
  | global g => exact .u _
  | func f => exact .fn (.func f) #[] [] #[] [] rfl rfl (fun k h => by simp at h) (fun k h => by simp at h)
structure Kept (B : Base) (X : Lay) (om : Om) : Prop where
  ob : ∀ id cs, om id = some cs → Thing X id cs
  sb : ∀ b o, X.S b o → b < X.w.heap.size
  fn : Grown B.w X.w
  fb : ∀ b, b < B.w.heap.size → B.om b = none → X.w.heap[b]? = B.w.heap[b]?
  fS : ∀ b o, B.S b o → X.S b o
  fS' : ∀ b o, X.S b o → b < B.w.heap.size → B.S b o
  fo : ∀ id, om id ≠ none → id < B.w.heap.size → B.om id ≠ none
theorem Rel.kept {B : Base} {X : Lay} {own : Nat → Prop} {st : St} {a : Act} (R : Rel B X own st a) : Kept B X st.om :=
  ⟨R.ob, R.sb, R.fn, R.fb, R.fS, R.fS', R.fo⟩
structure Good (X : Lay) (om : Om) : Prop where
  ob : ∀ id cs, om id = some cs → Thing X id cs
  sb : ∀ b o, X.S b o → b < X.w.heap.size
def Tells (P : Program) (f : FuncId) (X : Lay) (om : Om) (vs : Array Value) (Q : V → Om → Prop) : Prop :=
  Calls P f vs X.w fun e w' => ∃ v Y r om', e = .returned v ∧ Y.w = w' ∧ Q r om' ∧ Rep Y v r ∧ r.clean = true ∧ Kept ⟨X.w, X.S, om, []⟩ Y om'
def Mono (c : Cn) : Prop := ∀ args om (K K' : V → Om → Prop), (∀ r om, K r om → K' r om) → @c args om ⟨K⟩ → @c args om ⟨K'⟩
def Quiet (c : Cn) : Prop := ∀ args om (K : V → Om → Prop), @c args om ⟨K⟩ → @c args om ⟨fun r om' => OmKept om om' ∧ K r om'⟩
structure Ok (P : Program) (f : FuncId) (c : Cn) : Prop where
  mono : Mono c
  run : ∀ args w, (callFunc f args).run P w = .ok (.enter f args) w
  tells : ∀ X om args vs (Q : V → Om → Prop), Good X om → RepL X vs args → cleans args = true → @c args om ⟨Q⟩ → Tells P f X om vs.toArray Q
structure OkX (P : Program) (f : FuncId) (c : Cn) : Prop where
  mono : Mono c
  gives : ∀ X om args vs (Q : V → Om → Prop), Good X om → RepL X vs args → cleans args = true → @c args om ⟨Q⟩ → ∃ v r, (callFunc f vs.toArray).run P X.w = .ok (.value v) X.w ∧ Rep X v r ∧ Q r om
def OkE (P : Program) (f : FuncId) (c : Cn) : Prop := Ok P f c ∨ OkX P f c
theorem OkE.mono {P : Program} {f : FuncId} {c : Cn} (h : OkE P f c) : Mono c := h.elim (·.mono) (·.mono)
structure Reach (B : Base) (X : Lay) (om : Om) : Prop where
  fn : Grown B.w X.w
  fb : ∀ b, b < B.w.heap.size → B.om b = none → X.w.heap[b]? = B.w.heap[b]?
  fS : ∀ b o, B.S b o → X.S b o
  fo : ∀ id, om id ≠ none → id < B.w.heap.size → B.om id ≠ none
theorem Rel.reach {B : Base} {X : Lay} {own : Nat → Prop} {st : St} {a : Act} (R : Rel B X own st a) : Reach B X st.om := ⟨R.fn, R.fb, R.fS, R.fo⟩
def FW (F : Fence) : Prop := F = Fence.wide ∨ ∃ l, F = Fence.wide.inRound l
theorem FW.fn {F : Fence} (h : FW F) (f : FuncId) : F.fn f := by rcases h with rfl | ⟨l, rfl⟩ <;> trivial
theorem FW.depth {F : Fence} (h : FW F) : F.depth = none := by rcases h with rfl | ⟨l, rfl⟩ <;> rfl
theorem FW.round {F : Fence} (h : FW F) (l : Nat) : F.inRound l = Fence.wide.inRound l := by rcases h with rfl | ⟨l, rfl⟩ <;> rfl
theorem FW.calls {F : Fence} (hF : FW F) {n : Nat} {P : Program} {f : FuncId} {args : Array Value} {w : World} {R : Ending → World → Prop} (h : Calls P f args w R) : CallsIn F n P f args w R := by
  rcases hF with rfl | ⟨l, rfl⟩
  · exact callsIn_wide.2 h
  · exact (callsIn_wide (n := n)).2 h
def Left (X : Lay) (om : Om) (Q : V → Om → Prop) : Ending → World → Prop := fun e w' => ∃ v Y r om', e = .returned v ∧ Y.w = w' ∧ Q r om' ∧ Rep Y v r ∧ r.clean = true ∧ Kept ⟨X.w, X.S, om, []⟩ Y om'
structure YOk (P : Program) (B : Base) (l : Nat) (c : Cn) : Prop where
  mono : Mono c
  tells : ∀ X om args vs (Q : V → Om → Prop), Reach B X om → Good X om → RepL X vs args → cleans args = true → @c args om ⟨Q⟩ →
    ∃ r : Loop, X.w.heap[l]? = some (.loop r) ∧ vs.length = r.params.size ∧
      ∀ F n, FW F → RoundIn F n P l r.fn ((r.params.zip vs.toArray).foldl (fun tmps (t, a) => tmps.setIfInBounds t a) r.tmps) r.assign r.body X.w (Left X om Q)
theorem YOk.reach {P : Program} {B B' : Base} {l : Nat} {c : Cn} (h : YOk P B l c) (hr : ∀ X om, Reach B' X om → Reach B X om) : YOk P B' l c :=
  ⟨h.mono, fun X om args vs Q r => h.tells X om args vs Q (hr X om r)⟩
structure OkR (P : Program) (f : FuncId) (rc : Cn → Cn) : Prop where
  run : ∀ args w, (callFunc f args).run P w = .ok (.enter f args) w
  tells : ∀ l cy X om caps vs (Q : V → Om → Prop), YOk P ⟨X.w, X.S, om, []⟩ l cy → Good X om → RepL X vs caps → cleans caps = true → @rc cy caps om ⟨Q⟩ →
    Tells P f X om (#[.func (.yield l) #[] #[]] ++ vs.toArray) Q
end Go.Proofs.YteomkgcepiecjaaGreat.I
/- The operators on numbers: the ideal one tells what the real one does. -/
namespace Go.Proofs.YteomkgcepiecjaaGreat.I
open Go
theorem wrap_ok {x : Int} (h : i64ok x) : IntKind.i64.wrap x = x := by
  obtain ⟨h1, h2⟩ := h
  rw [IntKind.wrap_i64]; omega
theorem wrap_u {k : IntKind} (hk : k.signed = false) (x : Int) : k.wrap x = x % (2 ^ k.bits : Int) := by
  simp [IntKind.wrap, hk]
theorem wrap_nat {k : IntKind} (hk : k.signed = false) (x : Nat) : k.wrap x = ((x % 2 ^ k.bits : Nat) : Int) := by
  rw [wrap_u hk]; norm_cast
theorem wrap_small {k : IntKind} (hk : k.signed = false) {x : Nat} (h : x < 2 ^ k.bits) : k.wrap x = (x : Int) := by
  rw [wrap_nat hk, Nat.mod_eq_of_lt h]
theorem pw_pos (k : IntKind) : 0 < pw k := by unfold pw; exact Nat.pow_pos (by omega)
theorem wrap_sub {k : IntKind} (hk : k.signed = false) {x y : Nat} (hy : y < 2 ^ k.bits) : k.wrap ((x : Int) - y) = (((x + pw k - y) % pw k : Nat) : Int) := by
  rw [wrap_u hk]
  have e : ((x + pw k - y : Nat) : Int) = (x : Int) - y + (2 ^ k.bits : Int) := by
    have : y ≤ x + pw k := by unfold pw; omega
    rw [Int.ofNat_sub this]; unfold pw; push_cast; omega
  have e2 : (((x + pw k - y) % pw k : Nat) : Int) = ((x + pw k - y : Nat) : Int) % (2 ^ k.bits : Int) := by
    unfold pw; push_cast; rfl
  rw [e2, e, Int.add_emod_right]
theorem and_lt {n x y : Nat} (h : x < 2 ^ n) : x &&& y < 2 ^ n := Nat.lt_of_le_of_lt Nat.and_le_left h
theorem shl_eq (k : IntKind) (a s : Nat) : (a * 2 ^ min s k.bits) % 2 ^ k.bits = (a <<< s) % pw k := by
  unfold pw
  rw [Nat.shiftLeft_eq]
  by_cases h : s ≤ k.bits
  · rw [Nat.min_eq_left h]
  · rw [Nat.min_eq_right (by omega)]
    have e : 2 ^ s = 2 ^ k.bits * 2 ^ (s - k.bits) := by rw [← Nat.pow_add]; congr 1; omega
    rw [e, ← Nat.mul_assoc, Nat.mul_mod_left, Nat.mul_comm a, Nat.mul_assoc, Nat.mul_mod_right]
theorem shr_eq {k : IntKind} {a : Nat} (ha : a < 2 ^ k.bits) (s : Nat) : a / 2 ^ min s k.bits = a >>> s := by
  rw [Nat.shiftRight_eq_div_pow]
  by_cases h : s ≤ k.bits
  · rw [Nat.min_eq_left h]
  · rw [Nat.min_eq_right (by omega), Nat.div_eq_of_lt ha, Nat.div_eq_of_lt]
    exact Nat.lt_of_lt_of_le ha (Nat.pow_le_pow_right (by omega) (by omega))
theorem shl_real {k : IntKind} (hk : k.signed = false) (a s : Nat) : k.wrap ((a : Int) * 2 ^ min s k.bits) = (((a <<< s) % pw k : Nat) : Int) := by
  rw [← shl_eq, ← wrap_nat hk]; push_cast; rfl
theorem shr_real {k : IntKind} {a : Nat} (ha : a < 2 ^ k.bits) (s : Nat) : (a : Int).fdiv (2 ^ min s k.bits) = ((a >>> s : Nat) : Int) := by
  rw [← shr_eq ha, Int.fdiv_eq_ediv_of_nonneg _ (Int.pow_nonneg (by omega))]; push_cast; rfl
theorem bits_real {k : IntKind} (hk : k.signed = false) {a b : Nat} (ha : a < 2 ^ k.bits) (hb : b < 2 ^ k.bits) (op : BinOp) (r : Nat) (P : Program) (w : World)
    (h : op = .and ∧ r = a &&& b ∨ op = .or ∧ r = a ||| b ∨ op = .xor ∧ r = a ^^^ b) : (Op.intBits op k a b).run P w = .ok (.int k r) w ∧ r < 2 ^ k.bits := by
  have hr : r < 2 ^ k.bits := by
    rcases h with ⟨_, rfl⟩ | ⟨_, rfl⟩ | ⟨_, rfl⟩
    · exact and_lt ha
    · exact Nat.or_lt_two_pow ha hb
    · exact Nat.xor_lt_two_pow ha hb
  refine ⟨?_, hr⟩
  rcases h with ⟨rfl, rfl⟩ | ⟨rfl, rfl⟩ | ⟨rfl, rfl⟩ <;>
    simp [Op.intBits, BitVec.toNat_and, BitVec.toNat_or, BitVec.toNat_xor, BitVec.toNat_ofNat, Nat.mod_eq_of_lt ha, Nat.mod_eq_of_lt hb, wrap_small hk hr]
theorem beq_int (a b : Nat) : ((a : Int) == (b : Int)) = decide (a = b) := by
  rw [Bool.eq_iff_iff, beq_iff_eq, decide_eq_true_iff]; exact Int.ofNat_inj
theorem lt_pw {k : IntKind} (x : Nat) : x % pw k < 2 ^ k.bits := Nat.mod_lt _ (pw_pos k)
theorem run_equal_ifc {P : Program} {t : TypeId} {ms : _} {a : TypeId} {v : Value} (w : World) (hu : P.underlying t = some (.interface ms)) : (Op.equal t (.iface a v) .nilIface).run P w = .ok false w := by
  show (Op.equalIn (9999 + 1) t (.iface a v) .nilIface).run P w = _
  rw [Op.equalIn.eq_2]
  simp only [Sem.run_bind, run_underlying hu, Result.andThen_ok, Sem.run_pure]
theorem run_equal_nili {P : Program} {t : TypeId} {ms : _} (w : World) (hu : P.underlying t = some (.interface ms)) : (Op.equal t .nilIface .nilIface).run P w = .ok true w := by
  show (Op.equalIn (9999 + 1) t .nilIface .nilIface).run P w = _
  rw [Op.equalIn.eq_2]
  simp only [Sem.run_bind, run_underlying hu, Result.andThen_ok, Sem.run_pure]
theorem run_equalIn_ptr {P : Program} {t e : TypeId} (d : Nat) (p : Option Addr) (w : World) (hu : P.underlying t = some (.pointer e)) : (Op.equalIn (d + 1) t (.pointer p) (.pointer none)).run P w = .ok p.isNone w := by
  cases p <;> simp [Op.equalIn, run_underlying hu]
theorem run_equal_ptr {P : Program} {t e : TypeId} (p : Option Addr) (w : World) (hu : P.underlying t = some (.pointer e)) : (Op.equal t (.pointer p) (.pointer none)).run P w = .ok p.isNone w := run_equalIn_ptr 9999 p w hu
theorem isPt_und {P : Program} {t : TypeId} {tk : TK} (ht : ∃ d, P.underlying t = some d ∧ tk.fits P d) (h : tk.isPt = true) : ∃ e, P.underlying t = some (.pointer e) := by
  obtain ⟨d, hd, hf⟩ := ht
  cases tk <;> simp [TK.isPt] at h
  simp only [TK.fits] at hf
  exact ⟨_, by rw [hd, hf]⟩
theorem isIf_und {P : Program} {t : TypeId} {tk : TK} (ht : ∃ d, P.underlying t = some d ∧ tk.fits P d) (h : tk.isIf = true) : ∃ ms, P.underlying t = some (.interface ms) := by
  obtain ⟨d, hd, hf⟩ := ht
  cases tk <;> simp [TK.isIf] at h
  simp only [TK.fits] at hf
  obtain ⟨ms, rfl⟩ := hf
  exact ⟨ms, hd⟩
theorem bin_sound {P : Program} {X : Lay} {op : BinOp} {x y : V} {K : V → Prop} {v v' : Value} (t : TypeId) (tk : TK) (ht : ∃ d, P.underlying t = some d ∧ tk.fits P d) (h : @bin op tk x y ⟨K⟩) (hx : Rep X v x) (hy : Rep X v' y) :
    ∃ r u, K r ∧ Rep X u r ∧ (binOp op t v v').run P X.w = .ok u X.w ∧ v ≠ .nilIface ∧ (∀ cs, v ≠ .agg cs) := by
  unfold bin at h
  split at h <;> first | exact h.elim | skip
  all_goals (simp only at h)
  all_goals (cases hx <;> cases hy)
  case h_1 a b ha hb => exact ⟨_, _, h.2, .z _ h.1, by simp [binOp, Op.intArith, wrap_ok h.1], by simp, by simp⟩
  case h_2 a b ha hb => exact ⟨_, _, h.2, .z _ h.1, by simp [binOp, Op.intArith, wrap_ok h.1], by simp, by simp⟩
  case h_3 a b ha hb => exact ⟨_, _, h.2, .z _ h.1, by simp [binOp, Op.intArith, wrap_ok h.1], by simp, by simp⟩
  case h_4 a b ha hb =>
    have hr : i64ok (a / b) := by
      have h1 := Int.ediv_le_self b h.1.1
      have h2 := Int.ediv_nonneg h.1.1 (Int.le_of_lt h.1.2)
      unfold i64ok at ha ⊢; omega
    refine ⟨_, _, h.2, .z _ hr, ?_, by simp, by simp⟩
    have hb0 : b ≠ 0 := by omega
    simp [binOp, Op.intDiv, hb0, Int.tdiv_eq_ediv_of_nonneg h.1.1, wrap_ok hr]
  case h_5 a b ha hb =>
    have hr : i64ok (a % b) := by
      have h1 := Int.emod_lt_of_pos a h.1.2
      have h2 := Int.emod_nonneg a (show b ≠ 0 by omega)
      unfold i64ok at hb ⊢; omega
    refine ⟨_, _, h.2, .z _ hr, ?_, by simp, by simp⟩
    have hb0 : b ≠ 0 := by omega
    simp [binOp, Op.intDiv, hb0, Int.tmod_eq_emod_of_nonneg h.1.1]
  case h_6 a b ha hb => exact ⟨_, _, h, .b _, by simp [binOp, Op.intCmp]; rfl, by simp, by simp⟩
  case h_7 a b ha hb => exact ⟨_, _, h, .b _, by simp [binOp, Op.intCmp, bne]; rfl, by simp, by simp⟩
  case h_8 a b ha hb => exact ⟨_, _, h, .b _, by simp [binOp, Op.intCmp], by simp, by simp⟩
  case h_9 a b ha hb => exact ⟨_, _, h, .b _, by simp [binOp, Op.intCmp], by simp, by simp⟩
  case h_10 a b ha hb => exact ⟨_, _, h, .b _, by simp [binOp, Op.intCmp], by simp, by simp⟩
  case h_11 a b ha hb => exact ⟨_, _, h, .b _, by simp [binOp, Op.intCmp], by simp, by simp⟩
  case h_12 k a k' b hk ha hk' hb =>
    obtain ⟨rfl, h⟩ := h
    exact ⟨_, _, h, .n k _ hk (lt_pw _), by simp [binOp, Op.intArith, ← Int.natCast_add, wrap_nat hk, pw], by simp, by simp⟩
  case h_13 k a k' b hk ha hk' hb =>
    obtain ⟨rfl, h⟩ := h
    exact ⟨_, _, h, .n k _ hk (lt_pw _), by simp [binOp, Op.intArith, wrap_sub hk hb], by simp, by simp⟩
  case h_14 k a k' b hk ha hk' hb =>
    obtain ⟨rfl, h⟩ := h
    exact ⟨_, _, h, .n k _ hk (lt_pw _), by simp [binOp, Op.intArith, ← Int.natCast_mul, wrap_nat hk, pw], by simp, by simp⟩
  case h_15 k a k' b hk ha hk' hb =>
    obtain ⟨rfl, hb0, h⟩ := h
    have hr : a / b < 2 ^ k.bits := Nat.lt_of_le_of_lt (Nat.div_le_self _ _) ha
    refine ⟨_, _, h, .n k _ hk hr, ?_, by simp, by simp⟩
    have e : (a : Int).tdiv b = ((a / b : Nat) : Int) := rfl
    have e3 : k.wrap ((a : Int) / b) = (a : Int) / b := by have := wrap_small hk hr; push_cast at this; exact this
    simp [binOp, Op.intDiv, hb0, e3]
  case h_16 k a k' b hk ha hk' hb =>
    obtain ⟨rfl, hb0, h⟩ := h
    have hr : a % b < 2 ^ k.bits := Nat.lt_of_le_of_lt (Nat.mod_le _ _) ha
    refine ⟨_, _, h, .n k _ hk hr, ?_, by simp, by simp⟩
    have e : (a : Int).tmod b = ((a % b : Nat) : Int) := rfl
    simp [binOp, Op.intDiv, hb0, e]
  case h_17 k a k' b hk ha hk' hb =>
    obtain ⟨rfl, h⟩ := h
    have e := bits_real hk ha hb .and _ P X.w (.inl ⟨rfl, rfl⟩)
    exact ⟨_, _, h, .n k _ hk e.2, by simp [binOp, e.1], by simp, by simp⟩
  case h_18 k a k' b hk ha hk' hb =>
    obtain ⟨rfl, h⟩ := h
    have e := bits_real hk ha hb .or _ P X.w (.inr (.inl ⟨rfl, rfl⟩))
    exact ⟨_, _, h, .n k _ hk e.2, by simp [binOp, e.1], by simp, by simp⟩
  case h_19 k a k' b hk ha hk' hb =>
    obtain ⟨rfl, h⟩ := h
    have e := bits_real hk ha hb .xor _ P X.w (.inr (.inr ⟨rfl, rfl⟩))
    exact ⟨_, _, h, .n k _ hk e.2, by simp [binOp, e.1], by simp, by simp⟩
  case h_20 k a k' b hk ha hk' hb =>
    obtain ⟨rfl, h⟩ := h
    exact ⟨_, _, h, .b _, by simp [binOp, Op.intCmp, beq_int], by simp, by simp⟩
  case h_21 k a k' b hk ha hk' hb =>
    obtain ⟨rfl, h⟩ := h
    exact ⟨_, _, h, .b _, by simp [binOp, Op.intCmp, bne, beq_int], by simp, by simp⟩
  case h_22 k a k' b hk ha hk' hb =>
    obtain ⟨rfl, h⟩ := h
    exact ⟨_, _, h, .b _, by simp [binOp, Op.intCmp], by simp, by simp⟩
  case h_23 k a k' b hk ha hk' hb =>
    obtain ⟨rfl, h⟩ := h
    exact ⟨_, _, h, .b _, by simp [binOp, Op.intCmp], by simp, by simp⟩
  case h_24 k a k' b hk ha hk' hb =>
    obtain ⟨rfl, h⟩ := h
    exact ⟨_, _, h, .b _, by simp [binOp, Op.intCmp], by simp, by simp⟩
  case h_25 k a k' b hk ha hk' hb =>
    obtain ⟨rfl, h⟩ := h
    exact ⟨_, _, h, .b _, by simp [binOp, Op.intCmp], by simp, by simp⟩
  case h_26 k a b hk ha hb =>
    obtain ⟨m, rfl⟩ := Int.eq_ofNat_of_zero_le h.1
    exact ⟨_, _, h.2, .n k _ hk (lt_pw _), by simp [binOp, Op.shift, shl_real hk, Int.not_lt.2 h.1], by simp, by simp⟩
  case h_27 k a b hk ha hb =>
    obtain ⟨m, rfl⟩ := Int.eq_ofNat_of_zero_le h.1
    exact ⟨_, _, h.2, .n k _ hk (Nat.lt_of_le_of_lt (by rw [Nat.shiftRight_eq_div_pow]; exact Nat.div_le_self _ _) ha), by simp [binOp, Op.shift, shr_real ha, Int.not_lt.2 h.1], by simp, by simp⟩
  case h_28 k a k' b hk ha hk' hb =>
    exact ⟨_, _, h, .n k _ hk (lt_pw _), by simp [binOp, Op.shift, shl_real hk, Int.not_lt.2 (Int.natCast_nonneg b)], by simp, by simp⟩
  case h_29 k a k' b hk ha hk' hb =>
    exact ⟨_, _, h, .n k _ hk (Nat.lt_of_le_of_lt (by rw [Nat.shiftRight_eq_div_pow]; exact Nat.div_le_self _ _) ha), by simp [binOp, Op.shift, shr_real ha, Int.not_lt.2 (Int.natCast_nonneg b)], by simp, by simp⟩
  case h_30 a b =>
    obtain ⟨rfl, h⟩ := h
    obtain ⟨d, hd, hf⟩ := ht
    simp only [TK.fits] at hf; subst hf
    exact ⟨_, _, h, .b _, run_eql_bool X.w t a b hd, by simp, by simp⟩
  case h_31 a b =>
    obtain ⟨rfl, h⟩ := h
    obtain ⟨d, hd, hf⟩ := ht
    simp only [TK.fits] at hf; subst hf
    exact ⟨_, _, h, .b _, by simp [binOp, run_equal_bool X.w t a b hd, bne], by simp, by simp⟩
  case h_42 =>
    obtain ⟨ht', h⟩ := h
    obtain ⟨ms, hu⟩ := isIf_und ht ht'
    exact ⟨_, _, h, .b _, by simp [binOp, run_equal_ifc X.w hu], by simp, by simp⟩
  case h_43 =>
    obtain ⟨ht', h⟩ := h
    obtain ⟨ms, hu⟩ := isIf_und ht ht'
    exact ⟨_, _, h, .b _, by simp [binOp, run_equal_ifc X.w hu], by simp, by simp⟩
  case h_46 =>
    obtain ⟨ht', h⟩ := h
    obtain ⟨e, hu⟩ := isPt_und ht ht'
    exact ⟨_, _, h, .b _, by simp [binOp, run_equal_ptr _ X.w hu], by simp, by simp⟩
  case h_47 =>
    obtain ⟨ht', h⟩ := h
    obtain ⟨e, hu⟩ := isPt_und ht ht'
    exact ⟨_, _, h, .b _, by simp [binOp, run_equal_ptr _ X.w hu], by simp, by simp⟩
  case h_48 =>
    obtain ⟨ht', h⟩ := h
    obtain ⟨e, hu⟩ := isPt_und ht ht'
    exact ⟨_, _, h, .b _, by simp [binOp, run_equal_ptr _ X.w hu], by simp, by simp⟩
  case h_49 =>
    obtain ⟨ht', h⟩ := h
    obtain ⟨e, hu⟩ := isPt_und ht ht'
    exact ⟨_, _, h, .b _, by simp [binOp, run_equal_ptr _ X.w hu], by simp, by simp⟩
  all_goals
    obtain ⟨ht', h⟩ := h
    have hu : ∃ e, P.underlying t = some (.slice e) := by
      obtain ⟨d, hd, hf⟩ := ht
      cases tk <;> simp [TK.isSl] at ht'
      simp only [TK.fits] at hf
      exact ⟨_, by rw [hd, hf]⟩
    obtain ⟨e, hu⟩ := hu
  case h_32.sl0.nils a c => cases a with
    | none => exact ⟨_, _, h.1 rfl, .b _, by simp [binOp, run_equal_slice_nil X.w t e _ _ _ hu], by simp, by simp⟩
    | some a => exact ⟨_, _, h.2, .b _, by simp [binOp, run_equal_slice_nil X.w t e _ _ _ hu], by simp, by simp⟩
  case h_32.sl.nils => exact ⟨_, _, h.2, .b _, by simp [binOp, run_equal_slice_nil X.w t e _ _ _ hu], by simp, by simp⟩
  case h_33.sl0.nils a c => cases a with
    | none => exact ⟨_, _, h.1 rfl, .b _, by simp [binOp, run_equal_slice_nil X.w t e _ _ _ hu], by simp, by simp⟩
    | some a => exact ⟨_, _, h.2, .b _, by simp [binOp, run_equal_slice_nil X.w t e _ _ _ hu], by simp, by simp⟩
  case h_33.sl.nils => exact ⟨_, _, h.2, .b _, by simp [binOp, run_equal_slice_nil X.w t e _ _ _ hu], by simp, by simp⟩
  case h_34 => exact ⟨_, _, h, .b _, by simp [binOp, run_equal_slice_nil X.w t e _ _ _ hu], by simp, by simp⟩
  case h_35 => exact ⟨_, _, h, .b _, by simp [binOp, run_equal_slice_nil X.w t e _ _ _ hu], by simp, by simp⟩
  case h_36 => exact ⟨_, _, h, .b _, by simp [binOp, run_equal_slice_nil X.w t e _ _ _ hu], by simp, by simp⟩
  case h_37 => exact ⟨_, _, h, .b _, by simp [binOp, run_equal_slice_nil X.w t e _ _ _ hu], by simp, by simp⟩
  case h_38.row.nils a c _ _ _ _ _ hnn _ => cases a with
    | none => exact ⟨_, _, h.1 (hnn rfl), .b _, by simp [binOp, run_equal_slice_nil X.w t e _ _ _ hu], by simp, by simp⟩
    | some a => exact ⟨_, _, h.2, .b _, by simp [binOp, run_equal_slice_nil X.w t e _ _ _ hu], by simp, by simp⟩
  case h_39.row.nils a c _ _ _ _ _ hnn _ => cases a with
    | none => exact ⟨_, _, h.1 (hnn rfl), .b _, by simp [binOp, run_equal_slice_nil X.w t e _ _ _ hu], by simp, by simp⟩
    | some a => exact ⟨_, _, h.2, .b _, by simp [binOp, run_equal_slice_nil X.w t e _ _ _ hu], by simp, by simp⟩
  case h_40.ow.nils => exact ⟨_, _, h, .b _, by simp [binOp, run_equal_slice_nil X.w t e _ _ _ hu], by simp, by simp⟩
  case h_41.ow.nils => exact ⟨_, _, h, .b _, by simp [binOp, run_equal_slice_nil X.w t e _ _ _ hu], by simp, by simp⟩
  case h_44.arr.nils a c ad hp h1 h2 h3 => cases a with
    | none => exact ⟨_, _, h.1 (Nat.eq_zero_of_not_pos fun g => nomatch h3 g), .b _, by simp [binOp, run_equal_slice_nil X.w t e _ _ _ hu], by simp, by simp⟩
    | some a => exact ⟨_, _, h.2, .b _, by simp [binOp, run_equal_slice_nil X.w t e _ _ _ hu], by simp, by simp⟩
  case h_45.arr.nils a c ad hp h1 h2 h3 => cases a with
    | none => exact ⟨_, _, h.1 (Nat.eq_zero_of_not_pos fun g => nomatch h3 g), .b _, by simp [binOp, run_equal_slice_nil X.w t e _ _ _ hu], by simp, by simp⟩
    | some a => exact ⟨_, _, h.2, .b _, by simp [binOp, run_equal_slice_nil X.w t e _ _ _ hu], by simp, by simp⟩
theorem un_sound {P : Program} {X : Lay} {op : UnOp} {x : V} {K : V → Prop} {v : Value} (h : @un op x ⟨K⟩) (hx : Rep X v x) :
    ∃ r u, K r ∧ Rep X u r ∧ (Op.unary op v).run P X.w = .ok u X.w := by
  unfold un at h
  split at h <;> first | exact h.elim | skip
  all_goals (simp only at h)
  all_goals (cases hx)
  case h_1 a => exact ⟨_, _, h, .b _, by simp [Op.unary]⟩
  case h_2 k a hk ha =>
    refine ⟨_, _, h, .n k _ hk (lt_pw _), ?_⟩
    have e := wrap_sub hk (x := 0) ha
    simp only [Int.natCast_zero, Int.zero_sub, Nat.zero_add] at e
    simp [Op.unary, Op.intArith, e]
  case h_3 a ha => exact ⟨_, _, h.2, .z _ h.1, by simp [Op.unary, Op.intArith, wrap_ok h.1]⟩
theorem conv_sound {P : Program} {X : Lay} {d : TK} {x : V} {K : V → Prop} {v : Value} (s t : TypeId) (hs : ∃ e, P.underlying s = some e) (ht : ∃ e, P.underlying t = some e ∧ d.fits P e) (h : @conv d x ⟨K⟩) (hx : Rep X v x) :
    ∃ r u, K r ∧ Rep X u r ∧ (convert s t v).run P X.w = .ok u X.w := by
  obtain ⟨es, hs⟩ := hs
  obtain ⟨et, ht, hf⟩ := ht
  have run : ∀ (k : IntKind) (m : IntKind) (n : Int), et = .int k → (convert s t (.int m n)).run P X.w = .ok (.int k (k.wrap n)) X.w := by
    rintro k m n rfl
    simp [convert, run_underlying hs, run_underlying ht, Conv.intToInt]
  unfold conv at h
  split at h <;> first | exact h.elim | skip
  all_goals (simp only at h; simp only [TK.fits] at hf)
  all_goals (cases hx)
  case h_1 a ha => exact ⟨_, _, h, .z _ ha, by rw [run .i64 _ _ hf, wrap_ok ha]⟩
  case h_2 k a hk ha =>
    have e : i64ok (a : Int) := by unfold i64ok; omega
    exact ⟨_, _, h.2, .z _ e, by rw [run .i64 _ _ hf, wrap_ok e]⟩
  case h_3 k a hk ha =>
    have hs : k.signed = false := h.1
    refine ⟨_, _, h.2, .n k _ hs ?_, ?_⟩
    · have h1 : a % (pw k : Int) < pw k := Int.emod_lt_of_pos _ (Int.ofNat_lt.2 (pw_pos k))
      have h2 : 0 ≤ a % (pw k : Int) := Int.emod_nonneg _ (Int.ne_of_gt (Int.ofNat_lt.2 (pw_pos k)))
      unfold pw at *; omega
    · rw [run k _ _ hf, wrap_u hs]
      have h2 : 0 ≤ a % (pw k : Int) := Int.emod_nonneg _ (Int.ne_of_gt (Int.ofNat_lt.2 (pw_pos k)))
      rw [Int.toNat_of_nonneg h2]; simp [pw]
  case h_4 k k' a hk hk' ha =>
    have hs : k.signed = false := h.1
    exact ⟨_, _, h.2, .n k _ hs (lt_pw _), by rw [run k _ _ hf, wrap_nat hs]; rfl⟩
end Go.Proofs.YteomkgcepiecjaaGreat.I
/- What is read: loads, parts, addresses. -/
namespace Go.Proofs.YteomkgcepiecjaaGreat.I
open Go
theorem so_inv {α : Type} {x : Option α} {K : α → Prop} (h : @so α x ⟨K⟩) : ∃ a, x = some a ∧ K a := by
  cases x with
  | none => exact h.elim
  | some a => exact ⟨a, rfl, h⟩
theorem ti_inv {cx : Cx} {t : TypeId} {K : TI → Prop} (h : @ti cx t ⟨K⟩) : ∃ i, cx.T t = some i ∧ K i := so_inv h
theorem hasN_iff : ∀ (o n : Nat) (cs : List V), hasN o n cs = true ↔ o + n ≤ cs.length
  | 0, 0, _ => by simp [hasN]
  | 0, n + 1, [] => by simp [hasN]
  | 0, n + 1, c :: cs => by simp [hasN, hasN_iff 0 n cs]
  | o + 1, n, [] => by simp [hasN]
  | o + 1, n, c :: cs => by simp [hasN, hasN_iff o n cs]; omega
section
variable {P : Program}
theorem run_typeInfo' {t : TypeId} {i : TypeInfo} (h : P.info? t = some i) (w : World) : (typeInfo t).run P w = .ok i w := by simp [typeInfo, h]
theorem run_sizeOf' {t : TypeId} {i : TypeInfo} (h : P.info? t = some i) (w : World) : (sizeOf t).run P w = .ok i.size w := by simp [sizeOf, run_typeInfo' h]
theorem run_zeroValue' {t : TypeId} {i : TypeInfo} {z : Value} (h : P.info? t = some i) (hz : i.zero = some z) (w : World) : (zeroValue t).run P w = .ok z w := by
  simp [zeroValue, run_typeInfo' h, hz]
theorem TOk.size {t : TypeId} {i : TI} (h : TOk P t i) (w : World) : (sizeOf t).run P w = .ok i.size w := by
  obtain ⟨inf, z, d, h1, h2, _⟩ := h.ex
  rw [run_sizeOf' h1, h2]
theorem TOk.isAgg {t : TypeId} {i : TI} (h : TOk P t i) (w : World) : (Go.isAgg t).run P w = .ok i.isAgg w := by
  obtain ⟨inf, z, d, h1, h2, h3, h4, h5, h6, _⟩ := h.ex
  unfold TI.isAgg
  cases hk : i.k <;> simp only [hk, TK.fits] at h6
  case int => subst h6; simp [Go.isAgg, run_underlying h5]
  case bool => subst h6; simp [Go.isAgg, run_underlying h5]
  case slice => subst h6; simp [Go.isAgg, run_underlying h5]
  case struct => obtain ⟨F, rfl, _⟩ := h6; simp [Go.isAgg, run_underlying h5]
  case array => subst h6; simp [Go.isAgg, run_underlying h5]
  case ptr => subst h6; simp [Go.isAgg, run_underlying h5]
  case string => subst h6; simp [Go.isAgg, run_underlying h5]
  case map => subst h6; simp [Go.isAgg, run_underlying h5]
  case iface => obtain ⟨ms, rfl⟩ := h6; simp [Go.isAgg, run_underlying h5]
  case other =>
    simp only [Go.isAgg, Sem.run_bind, run_underlying h5, Result.andThen_ok]
    split
    · rename_i F; exact absurd rfl (h6.1 F)
    · rename_i n e; exact absurd rfl (h6.2 n e)
    · rfl
def Readable (X : Lay) (b o : Nat) (cs : List V) : Prop :=
  ∃ vals : Nat → Value, ∀ k (h : k < cs.length), X.at b (o + k) = some (vals k) ∧ Rep X (vals k) cs[k] ∧ (vals k).oneCell' = true
theorem Fixed.readable {X : Lay} {b o : Nat} {cs : List V} (h : Fixed X b o cs) : Readable X b o cs :=
  let ⟨vals, h1, h2⟩ := h
  ⟨vals, fun k hk => ⟨(h1 k hk).2.1, h2 k hk, (h1 k hk).2.2⟩⟩
theorem Cells.readable {X : Lay} {b n : Nat} {cs : List V} (h : Cells X b n cs) : Readable X b 0 cs := by
  obtain ⟨cur, ty, h1, h2, h3, h4⟩ := h
  refine ⟨fun k => cur.getD k undef, fun k hk => ?_⟩
  have hk' : k < cur.size := by omega
  have e : cur.getD k undef = cur[k] := by simp [Array.getD, hk']
  simp only [e]
  exact ⟨by simp [Lay.at, World.cell?, h1, hk'], h4 k hk hk'⟩
theorem Readable.sub {X : Lay} {b o : Nat} {cs : List V} (h : Readable X b o cs) (d : Nat) (n : Nat) : Readable X b (o + d) ((cs.drop d).take n) := by
  obtain ⟨vals, h1⟩ := h
  refine ⟨fun k => vals (d + k), fun k hk => ?_⟩
  simp only [List.length_take, List.length_drop] at hk
  have := h1 (d + k) (by omega)
  rw [Nat.add_assoc]
  simpa using this
theorem add_off (b o k : Nat) : (⟨b, o, none⟩ : Addr).add k = ⟨b, o + k, none⟩ := by
  unfold Addr.add; split <;> simp_all
theorem loadVar_sound {X : Lay} {b o off : Nat} {cs : List V} {t : TypeId} {i : TI} {K : V → Prop} (hT : TOk P t i) (hr : Readable X b o cs) (h : @part i cs off ⟨K⟩) :
    ∃ r u, K r ∧ Rep X u r ∧ (loadVar t ⟨b, o + off, none⟩).run P X.w = .ok u X.w := by
  obtain ⟨vals, h1⟩ := hr
  unfold part at h
  obtain ⟨hn, h⟩ := h
  rw [hasN_iff] at hn
  cases ha : i.isAgg with
  | false =>
    simp only [ha] at h
    have hs := hT.sz ha
    have hk : off < cs.length := by omega
    refine ⟨_, vals off, h, ?_, ?_⟩
    · have e : cs.getD off .u = cs[off] := by simp [List.getD, hk]
      rw [e]; exact (h1 off hk).2.1
    · have e := (h1 off hk).1
      unfold Lay.at at e
      simp [loadVar, hT.isAgg, ha, e]
  | true =>
    simp only [ha] at h
    refine ⟨_, .agg ((List.range i.size).map fun k => vals (off + k)).toArray, h, ?_, ?_⟩
    · refine .agg _ _ (by simp; omega) (fun v hv => ?_) fun k hk hk' => ?_
      · simp only [List.mem_toArray, List.mem_map, List.mem_range] at hv
        obtain ⟨k, hk, rfl⟩ := hv
        exact (h1 (off + k) (by omega)).2.2
      · simp only [List.length_take, List.length_drop] at hk
        have := (h1 (off + k) (by omega)).2.1
        simpa using this
    · have hl := run_loadCells (P := P) X.w ⟨b, o + off, none⟩ i.size (fun k => vals (off + k)) (fun j hj => by
        have := (h1 (off + j) (by omega)).1
        rw [add_off, Nat.add_assoc]; exact this)
      simp [loadVar, hT.isAgg, ha, hT.size, hl]
theorem part_sound {X : Lay} {vs : Array Value} {off : Nat} {cs : List V} {t : TypeId} {i : TI} {K : V → Prop} (hT : TOk P t i) (hr : Rep X (.agg vs) (.agg cs)) (h : @part i cs off ⟨K⟩) :
    ∃ r u, K r ∧ Rep X u r ∧ (Go.part t vs off).run P X.w = .ok u X.w := by
  cases hr with
  | agg _ _ hz h0 h1 =>
    unfold part at h
    obtain ⟨hn, h⟩ := h
    rw [hasN_iff] at hn
    cases ha : i.isAgg with
    | false =>
      simp only [ha] at h
      have hs := hT.sz ha
      have hk : off < cs.length := by omega
      have hk' : off < vs.size := by omega
      refine ⟨_, vs[off], h, ?_, ?_⟩
      · have e : cs.getD off .u = cs[off] := by simp [List.getD, hk]
        rw [e]; exact h1 off hk hk'
      · simp [Go.part, hT.isAgg, ha, hk']
    | true =>
      simp only [ha] at h
      refine ⟨_, .agg (vs.extract off (off + i.size)), h, ?_, ?_⟩
      · refine .agg _ _ (by simp; omega) (fun v hv => ?_) fun k hk hk' => ?_
        · obtain ⟨k, hk, rfl⟩ := Array.mem_iff_getElem.1 hv
          simp only [Array.getElem_extract]
          exact h0 _ (Array.getElem_mem _)
        · simp only [List.length_take, List.length_drop] at hk
          have := h1 (off + k) (by omega) (by omega)
          simpa using this
      · simp [Go.part, hT.isAgg, ha, hT.size]
end
end Go.Proofs.YteomkgcepiecjaaGreat.I
/- Rows of whole numbers and truths (structs, arrays) that are compared. -/
namespace Go.Proofs.YteomkgcepiecjaaGreat.I
open Go
def okL : List CK → List Lit → Bool
  | [], [] => true
  | .i k :: ks, .int j n :: ls => decide (j = k) && (Lit.int j n).wf && okL ks ls
  | .b :: ks, .bool _ :: ls => okL ks ls
  | _, _ => false
def mkA (ls : List Lit) : Array Value := (ls.map Lit.value).toArray
structure PlainEq (P : Program) (t : TypeId) (ks : List CK) : Prop where
  guard : P.eqGuardType P.depth t = false
  run : ∀ (w : World) (as bs : List Lit), okL ks as = true → okL ks bs = true →
    ∃ r, (Op.equal t (.agg (mkA as)) (.agg (mkA bs))).run P w = .ok r w ∧ (r = true ↔ as = bs)
  chk : ∀ (w : World) (em : Bool) (as : List Lit), okL ks as = true → (Instr.checkKey em 10000 t (.agg (mkA as))).run P w = .ok () w
  wide : (match P.underlying t with | some (.array _ _) | some (.struct _) => true | _ => false) = true
def litV : Lit → V
  | .int k n => numV k n
  | .bool b => .b b
  | _ => .u
def CK.ok : CK → Prop
  | .i k => k = .i64 ∨ k.signed = false
  | .b => True
theorem numV_inj {k : IntKind} {a b : Int} (ha : (Lit.int k a).wf = true) (hb : (Lit.int k b).wf = true) (hs : k = .i64 ∨ k.signed = false) (h : numV k a = numV k b) : a = b := by
  unfold numV at h
  split at h
  · injection h
  · rename_i hk
    have hs := hs.resolve_left hk
    have hmin : k.min = 0 := by cases k <;> simp [IntKind.signed] at hs <;> rfl
    simp only [Lit.wf, Bool.and_eq_true, decide_eq_true_eq, hmin] at ha hb
    injection h with _ h
    omega
theorem repL_kinds {X : Lay} : ∀ {ks : List CK} {vs : List Value} {xs : List V}, RepL X vs xs → fitK ks xs = true →
    ∃ ls : List Lit, okL ks ls = true ∧ vs = ls.map Lit.value ∧ xs = ls.map litV ∧ ∀ k ∈ ks, k.ok
  | [], _, [], .nil, _ => ⟨[], rfl, rfl, rfl, by simp⟩
  | [], _, _ :: _, _, h => by simp [fitK] at h
  | _ :: _, _, [], _, h => by simp [fitK] at h
  | k :: ks, _, x :: xs, .cons (v := v) (vs := vs) hv hr, h => by
    simp only [fitK, Bool.and_eq_true] at h
    obtain ⟨ls, h1, h2, h3, h4⟩ := repL_kinds hr h.2
    have fin : ∀ (l : Lit), okL (k :: ks) (l :: ls) = true → v = l.value → x = litV l → k.ok → ∃ ls : List Lit, okL (k :: ks) ls = true ∧ v :: vs = ls.map Lit.value ∧ x :: xs = ls.map litV ∧ ∀ j ∈ k :: ks, j.ok := fun l g1 g2 g3 g4 =>
      ⟨l :: ls, g1, by rw [g2, h2]; rfl, by rw [g3, h3]; rfl, fun j hj => by
        rcases List.mem_cons.1 hj with rfl | hj
        · exact g4
        · exact h4 j hj⟩
    have hk := h.1
    cases k with
    | b =>
      cases x <;> simp only [fit1, Bool.false_eq_true] at hk
      rename_i y
      cases hv
      exact fin (.bool y) (by simpa [okL] using h1) rfl rfl trivial
    | i k =>
      cases x <;> simp only [fit1, Bool.false_eq_true] at hk
      · rename_i k' m
        have hk' : k' = k := by simpa using hk
        subst hk'
        cases hv with
        | n _ _ hs hl =>
          have hmin : k'.min = 0 := by cases k' <;> simp [IntKind.signed] at hs <;> rfl
          have hmax : k'.max + 1 = 2 ^ k'.bits := by cases k' <;> simp [IntKind.signed] at hs <;> rfl
          have hw : (Lit.int k' m).wf = true := by
            simp only [Lit.wf, Bool.and_eq_true, decide_eq_true_eq, hmin]
            refine ⟨by omega, ?_⟩
            have : ((m : Nat) : Int) < ((2 ^ k'.bits : Nat) : Int) := by exact_mod_cast hl
            rw [Int.natCast_pow] at this
            have e : (2 : Int) ^ k'.bits = k'.max + 1 := hmax.symm
            have : (m : Int) < k'.max + 1 := by rw [← e]; exact this
            omega
          refine fin (.int k' m) (by simp [okL, hw, h1]) rfl ?_ (.inr hs)
          simp only [litV]; unfold numV; rw [if_neg (by intro e; subst e; simp [IntKind.signed] at hs), Int.toNat_natCast]
      · rename_i m
        have hk' : k = .i64 := by simpa using hk
        subst hk'
        cases hv with
        | z _ hi =>
          have h1' : IntKind.i64.min = -9223372036854775808 := rfl
          have h2' : IntKind.i64.max = 9223372036854775807 := rfl
          have hw : (Lit.int .i64 m).wf = true := by
            unfold i64ok at hi
            simp only [Lit.wf, Bool.and_eq_true, decide_eq_true_eq, h1', h2']; exact hi
          refine fin (.int .i64 m) (by simp [okL, hw, h1]) rfl ?_ (.inl rfl)
          simp only [litV]; unfold numV; rw [if_pos rfl]
theorem litVs_inj : ∀ {ks : List CK} {as bs : List Lit}, okL ks as = true → okL ks bs = true → (∀ k ∈ ks, k.ok) → (as.map litV = bs.map litV ↔ as = bs)
  | [], [], [], _, _, _ => by simp
  | [], _ :: _, _, h, _, _ => by simp [okL] at h
  | [], _, _ :: _, _, h, _ => by simp [okL] at h
  | _ :: _, [], _, h, _, _ => by simp [okL] at h
  | _ :: _, _, [], _, h, _ => by simp [okL] at h
  | k :: ks, a :: as, b :: bs, h1, h2, hs => by
    have hk := hs k List.mem_cons_self
    have hs' : ∀ j ∈ ks, j.ok := fun j hj => hs j (List.mem_cons_of_mem _ hj)
    cases k with
    | b =>
      cases a <;> simp only [okL, Bool.false_eq_true] at h1
      cases b <;> simp only [okL, Bool.false_eq_true] at h2
      have ih := litVs_inj h1 h2 hs'
      simp [ih, litV]
    | i k =>
      cases a <;> simp only [okL, Bool.false_eq_true] at h1
      cases b <;> simp only [okL, Bool.false_eq_true] at h2
      rename_i j n j' n'
      simp only [Bool.and_eq_true, decide_eq_true_eq] at h1 h2
      obtain ⟨⟨rfl, w1⟩, h1⟩ := h1
      obtain ⟨⟨rfl, w2⟩, h2⟩ := h2
      have ih := litVs_inj h1 h2 hs'
      simp only [List.map_cons, List.cons.injEq, ih, litV, Lit.int.injEq, true_and]
      constructor
      · rintro ⟨e, rfl⟩; exact ⟨numV_inj w1 w2 hk e, rfl⟩
      · rintro ⟨rfl, rfl⟩; exact ⟨rfl, rfl⟩
theorem RepL.of_get {X : Lay} : ∀ {vs : List Value} {xs : List V}, vs.length = xs.length → (∀ k (h1 : k < vs.length) (h2 : k < xs.length), Rep X vs[k] xs[k]) → RepL X vs xs
  | [], [], _, _ => .nil
  | v :: vs, x :: xs, hl, h => .cons (h 0 (by simp) (by simp)) (RepL.of_get (by simpa using hl) fun k h1 h2 => h (k + 1) (by simpa using h1) (by simpa using h2))
  | [], _ :: _, hl, _ => by simp at hl
  | _ :: _, [], hl, _ => by simp at hl
theorem rep_agg {X : Lay} {v : Value} {xs : List V} (h : Rep X v (.agg xs)) : ∃ vs : Array Value, v = .agg vs ∧ RepL X vs.toList xs := by
  cases h with
  | agg vs _ hz _ hr => exact ⟨vs, rfl, .of_get (by simpa using hz) fun k k1 k2 => by simpa using hr k k2 (by simpa using k1)⟩
theorem eq_sound {P : Program} {X : Lay} {t : TypeId} {ks : List CK} (E : PlainEq P t ks) {v v' : Value} {xs ys : List V} (hx : Rep X v (.agg xs)) (hy : Rep X v' (.agg ys)) (f1 : fitK ks xs = true) (f2 : fitK ks ys = true) :
    ∃ (vs us : Array Value) (r : Bool), v = .agg vs ∧ v' = .agg us ∧ (Op.equal t v v').run P X.w = .ok r X.w ∧ (r = true ↔ xs = ys) := by
  obtain ⟨vs, rfl, r1⟩ := rep_agg hx
  obtain ⟨us, rfl, r2⟩ := rep_agg hy
  obtain ⟨as, a1, a2, a3, a4⟩ := repL_kinds r1 f1
  obtain ⟨bs, b1, b2, b3, _⟩ := repL_kinds r2 f2
  have e1 : vs = mkA as := by apply Array.ext'; rw [a2, mkA]
  have e2 : us = mkA bs := by apply Array.ext'; rw [b2, mkA]
  obtain ⟨r, hr, hi⟩ := E.run X.w as bs a1 b1
  refine ⟨vs, us, r, rfl, rfl, by rw [e1, e2]; exact hr, ?_⟩
  rw [hi, a3, b3, litVs_inj a1 b1 a4]
theorem same_lit (n : Nat) : ∀ {ks : List CK} {ls : List Lit}, okL ks ls = true → ((ls.map Lit.value).zip (ls.map Lit.value)).all (fun (x, y) => Instr.sameBits n x y) = true
  | [], [], _ => rfl
  | [], _ :: _, h => by simp [okL] at h
  | _ :: _, [], _ => rfl
  | .b :: ks, l :: ls, h => by
    cases l <;> simp only [okL, Bool.false_eq_true] at h
    simp only [List.map_cons, List.zip_cons_cons, List.all_cons, same_lit n h, Bool.and_true]
    simp [Lit.value, Instr.sameBits]
  | .i k :: ks, l :: ls, h => by
    cases l <;> simp only [okL, Bool.false_eq_true] at h
    simp only [Bool.and_eq_true] at h
    simp only [List.map_cons, List.zip_cons_cons, List.all_cons, same_lit n h.2, Bool.and_true]
    simp [Lit.value, Instr.sameBits]
theorem key_row {P : Program} {X : Lay} {t : TypeId} {ks : List CK} (E : PlainEq P t ks) {v : Value} {xs : List V} (hx : Rep X v (.agg xs)) (f1 : fitK ks xs = true) :
    (∀ em, (Instr.checkKey em 10000 t v).run P X.w = .ok () X.w) ∧ (Instr.keyThatStays v v).run P X.w = .ok v X.w := by
  obtain ⟨vs, rfl, r1⟩ := rep_agg hx
  obtain ⟨as, a1, a2, a3, a4⟩ := repL_kinds r1 f1
  have e1 : vs = mkA as := by apply Array.ext'; rw [a2, mkA]
  refine ⟨fun em => by rw [e1]; exact E.chk X.w em as a1, ?_⟩
  have : Instr.sameBits 10000 (.agg vs) (.agg vs) = true := by
    rw [Instr.sameBits, a2, same_lit _ a1]; simp
  simp [Instr.keyThatStays, this]
theorem row_eq {X : Lay} {ks : List CK} {v v' : Value} {xs ys : List V} (hx : Rep X v (.agg xs)) (hy : Rep X v' (.agg ys)) (f1 : fitK ks xs = true) (f2 : fitK ks ys = true) (h : xs = ys) : v = v' := by
  obtain ⟨vs, rfl, r1⟩ := rep_agg hx
  obtain ⟨us, rfl, r2⟩ := rep_agg hy
  obtain ⟨as, a1, a2, a3, a4⟩ := repL_kinds r1 f1
  obtain ⟨bs, b1, b2, b3, _⟩ := repL_kinds r2 f2
  rw [a3, b3, litVs_inj a1 b1 a4] at h
  subst h
  rw [show vs = us from Array.ext' (a2.trans b2.symm)]
end Go.Proofs.YteomkgcepiecjaaGreat.I
/- One operation that is no call: what the ideal machine tells is so. -/
namespace Go.Proofs.YteomkgcepiecjaaGreat.I
open Go
section
variable {P : Program}
def Step (P : Program) (B : Base) (o : Oper) (st : St) (K : St → Prop) : Prop :=
  ∀ X own a, Rel B X own st a → ∃ st' X' own' n u, K st' ∧ (execOp a.eval o).run P X.w = .ok n X'.w ∧ (n = .value u ∨ n = .skip ∧ u = undef) ∧ Rel B X' own' st' (a.put o.dst u)
theorem Step.yield {B : Base} {o : Oper} {st : St} {K : St → Prop}
    (h : ∀ X own a, Rel B X own st a → ∃ r u, K (st.set o.dst r) ∧ Rep X u r ∧ (execOp a.eval o).run P X.w = .ok (.value u) X.w) : Step P B o st K := by
  intro X own a R
  obtain ⟨r, u, hK, hr, hrun⟩ := h X own a R
  exact ⟨_, X, own, _, u, hK, hrun, .inl rfl, R.set o.dst hr⟩
def MtOk (P : Program) (t : TypeId) (m : String) (f : FuncId) : Prop :=
  (∀ v w, (method (P.types.size + Made.depth) t v m).run P w = .ok (f, v) w) ∧ ∀ v w, (nilAhead (P.types.size + Made.depth) t v m).run P w = .ok (some false) w
theorem mtOk_of {P : Program} {t : TypeId} {m : String} {f : FuncId} {inf : TypeInfo} {d : TypeDesc} {r : Method} (h1 : P.info? t = some inf) (h2 : inf.methods.find? (·.name == m) = some r) (h3 : r.path = #[]) (h4 : r.func = some (f, false))
    (h5 : P.underlying t = some d) (h6 : ∀ e, d ≠ .pointer e) : MtOk P t m f := by
  have hd : P.types.size + Made.depth = (P.types.size + Made.depth - 1) + 1 := by unfold Made.depth; omega
  rw [MtOk, hd]
  refine ⟨fun v w => ?_, fun v w => ?_⟩
  · unfold method
    have hr : ∀ wr, (receiverAt t (.val v) false wr).run P w = .ok v w := fun wr => by
      unfold receiverAt
      cases d <;> first | exact absurd rfl (h6 _) | simp [run_underlying h5, Place.get]
    simp [typeInfo, h1, h2, h3, h4, follow, hr]
  · unfold nilAhead
    cases d <;> first | exact absurd rfl (h6 _) | simp [typeInfo, h1, h2, h3, h4, followBlind, run_underlying h5]
structure COk (P : Program) (cx : Cx) : Prop where
  T : ∀ t i, cx.T t = some i → TOk P t i
  cs : ∀ f c, lk cx.cs f = some c → OkE P f c
  qs : ∀ f c, cx.qs.contains f = true → lk cx.cs f = some c → Quiet c := by intro f c h; simp at h
  rs : ∀ f rc, lkR cx.rs f = some rc → OkR P f rc
  E : ∀ t ks, cx.E t = some ks → PlainEq P t ks
  mt : ∀ t m f, lkM cx.mt t m = some f → MtOk P t m f
theorem addr_sound {X : Lay} {x : V} {d : Nat} {K : V → Prop} {v : Value} (h : @addr x d ⟨K⟩) (hx : Rep X v x) :
    ∃ r b o, K r ∧ v = .pointer (some ⟨b, o, none⟩) ∧ Rep X (.pointer (some ⟨b, o + d, none⟩)) r := by
  unfold addr at h
  split at h <;> first | exact h.elim | skip
  all_goals (simp only at h)
  · cases hx with
    | ref _ _ _ _ _ b o hl hm hv =>
      refine ⟨_, b, o, h, rfl, .ref _ _ _ _ _ _ _ hl hm fun e => ⟨(hv e).1, ?_⟩⟩
      have := (hv e).2
      omega
  · rename_i cs off
    cases hx
    rename_i b o vals hc h1 h2
    refine ⟨_, b, o + off, h, rfl, ?_⟩
    rw [Nat.add_assoc]
    exact .pc b o _ _ vals hc h1 h2
  · rename_i i off
    cases hx
    exact ⟨_, i, off, h, rfl, .obj _ _⟩
theorem fieldOf_inv {cx : Cx} (C : COk P cx) {t : TypeId} {f : Nat} {K : Nat → TypeId → Prop} (h : @fieldOf cx t f ⟨K⟩) :
    ∃ (F : Array Field) (x : Field), P.underlying t = some (.struct F) ∧ F[f]? = some x ∧ K x.offset x.type ∧ ∃ inf, P.info? x.type = some inf ∧ inf.size ≠ 0 := by
  unfold fieldOf at h
  obtain ⟨i, hi, h⟩ := ti_inv h
  split at h <;> first | exact h.elim | skip
  rename_i fs hk
  obtain ⟨p, hp, h⟩ := so_inv h
  obtain ⟨inf, z, d, h1, h2, h3, h4, h5, h6, _⟩ := (C.T _ _ hi).ex
  rw [hk] at h6
  obtain ⟨F, rfl, rfl, hF⟩ := h6
  simp only [List.getElem?_map, Option.map_eq_some_iff] at hp
  obtain ⟨x, hx, rfl⟩ := hp
  have hx' : F[f]? = some x := by simpa using hx
  exact ⟨F, x, h5, hx', h, hF x (Array.mem_of_getElem? hx')⟩
theorem fieldAddr_sound {cx : Cx} (C : COk P cx) {X : Lay} {t : TypeId} {x : V} {f : Nat} {K : V → Prop} {v : Value} (h : @fieldAddr cx t x f ⟨K⟩) (hx : Rep X v x) :
    ∃ r u, K r ∧ Rep X u r ∧ (Instr.fieldAt t v f).run P X.w = .ok u X.w := by
  unfold fieldAddr at h
  obtain ⟨F, fd, hu, hf, h, inf, hi, hs⟩ := fieldOf_inv C h
  obtain ⟨r, b, o, hK, rfl, hr⟩ := addr_sound h hx
  refine ⟨r, _, hK, hr, ?_⟩
  simp [Instr.fieldAt, run_underlying hu, hf, Instr.sureAddr, fieldPlace, run_sizeOf' hi, hs, add_off]
theorem run_indexSlice {t e : TypeId} {ei : TI} (hu : P.underlying t = some (.slice e)) (he : TOk P e ei) (b o len c : Nat) (i : Int) (h0 : 0 ≤ i) (h1 : i < len) (w : World) (kk : IntKind := .i64) :
    (Instr.indexAt t (.slice (some ⟨b, o, none⟩) len c) (.int kk i)).run P w = .ok (.pointer (some ⟨b, o + i.toNat * ei.size, none⟩)) w := by
  simp [Instr.indexAt, run_underlying hu, asIntOf, he.size, h0, h1, add_off]
theorem run_indexArray {t e : TypeId} {n : Nat} {ei : TI} (hu : P.underlying t = some (.array n e)) (he : TOk P e ei) (b o : Nat) (i : Int) (h0 : 0 ≤ i) (h1 : i < n) (w : World) (kk : IntKind := .i64) :
    (Instr.indexAt t (.pointer (some ⟨b, o, none⟩)) (.int kk i)).run P w = .ok (.pointer (some ⟨b, o + i.toNat * ei.size, none⟩)) w := by
  simp [Instr.indexAt, run_underlying hu, asIntOf, Instr.sureAddr, he.size, h0, h1, add_off]
theorem flat_uniform {xs : List V} {es : Nat} (h : ∀ x ∈ xs, x.cells.length = es) : (flat xs).length = xs.length * es := by
  induction xs with
  | nil => simp [flat]
  | cons x xs ih =>
    have e1 := h x (by simp)
    have e2 := ih fun y hy => h y (by simp [hy])
    simp only [flat, List.flatMap_cons, List.length_append, List.length_cons] at e2 ⊢
    rw [e1, e2, Nat.succ_mul, Nat.add_comm]
theorem flat_elem {xs : List V} {es : Nat} (h : ∀ x ∈ xs, x.cells.length = es) (k : Nat) (hk : k < xs.length) : ((flat xs).drop (k * es)).take es = xs[k].cells := by
  induction xs generalizing k with
  | nil => simp at hk
  | cons x xs ih =>
    have e1 := h x (by simp)
    cases k with
    | zero => simp [flat, ← e1]
    | succ k =>
      have e2 := ih (fun y hy => h y (by simp [hy])) k (by simpa using hk)
      simp only [flat, List.flatMap_cons, List.getElem_cons_succ] at e2 ⊢
      rw [← e2, List.drop_append]
      congr 1
      rw [List.drop_eq_nil_of_le (by rw [e1, Nat.succ_mul]; omega), List.nil_append]
      congr 1
      rw [e1, Nat.succ_mul]; omega
theorem Fixed.sub {X : Lay} {b o : Nat} {cs : List V} (h : Fixed X b o cs) (d n : Nat) : Fixed X b (o + d) ((cs.drop d).take n) := by
  obtain ⟨vals, h1, h2⟩ := h
  refine ⟨fun k => vals (d + k), fun k hk => ?_, fun k hk => ?_⟩
  · simp only [List.length_take, List.length_drop] at hk
    rw [Nat.add_assoc]; exact h1 (d + k) (by omega)
  · simp only [List.length_take, List.length_drop] at hk
    have := h2 (d + k) (by omega)
    simpa using this
theorem fixed_elem {X : Lay} {b o es : Nat} {xs : List V} (hcl : cleans xs = true) (hu : ∀ x ∈ xs, x.cells.length = es) (h : Fixed X b o (flat xs)) (k : Nat) (hk : k < xs.length) (z : V) :
    Rep X (.pointer (some ⟨b, o + k * es, none⟩)) (.pc (xs.getD k z).cells 0) := by
  have e : xs.getD k z = xs[k] := by simp [List.getD, hk]
  have hf := h.sub (k * es) es
  rw [flat_elem hu k hk, ← e] at hf
  have := Rep.pc_fixed (off := 0) (clean_cells ((cleans_iff _).1 hcl _ (by rw [e]; exact List.getElem_mem hk))) hf
  simpa using this
theorem COk.slice {cx : Cx} (C : COk P cx) {t e : TypeId} {i : TI} (h : cx.T t = some i) (hk : i.k = .slice e) : P.underlying t = some (.slice e) := by
  obtain ⟨inf, z, d, h1, h2, h3, h4, h5, h6, _⟩ := (C.T _ _ h).ex
  rw [hk] at h6; simp only [TK.fits] at h6; rw [h5, h6]
theorem COk.array {cx : Cx} (C : COk P cx) {t e : TypeId} {n : Nat} {i : TI} (h : cx.T t = some i) (hk : i.k = .array n e) : P.underlying t = some (.array n e) := by
  obtain ⟨inf, z, d, h1, h2, h3, h4, h5, h6, _⟩ := (C.T _ _ h).ex
  rw [hk] at h6; simp only [TK.fits] at h6; rw [h5, h6]
theorem rep_ix {X : Lay} {w : Value} {ix : V} {k : Int} (hr : Rep X w ix) (h : ixOf ix = some k) : ∃ kk, w = .int kk k := by
  cases hr <;> simp only [ixOf, Option.some.injEq, reduceCtorEq] at h
  · subst h; exact ⟨_, rfl⟩
  · subst h; exact ⟨_, rfl⟩
theorem indexAddr_sound {cx : Cx} (C : COk P cx) {B : Base} {X : Lay} {own : Nat → Prop} {st : St} {a : Act} (R : Rel B X own st a) {t : TypeId} {x ix : V} {K : V → Prop} {v w : Value}
    (h : @indexAddr cx st.mem t x ix ⟨K⟩) (hx : Rep X v x) (hix : Rep X w ix) : ∃ r u, K r ∧ Rep X u r ∧ (Instr.indexAt t v w).run P X.w = .ok u X.w := by
  unfold indexAddr at h
  replace h := ti_inv h; obtain ⟨i, hi, h⟩ := h
  split at h <;> first | exact h.elim | skip
  · rename_i e hk
    replace h := so_inv h; obtain ⟨k, hk0, h⟩ := h
    obtain ⟨kk, rfl⟩ := rep_ix hix hk0
    replace h := ti_inv h; obtain ⟨ei, hei, h⟩ := h
    have hu := C.slice hi hk
    have he := C.T _ _ hei
    split at h <;> first | exact h.elim | skip
    · rename_i xs
      obtain ⟨⟨⟨h0, h1⟩, hs⟩, h⟩ := h
      have hk' : k.toNat < xs.length := by omega
      cases hx with
      | sl0 => simp at hk'
      | sl b o c es _ vals hc hcm hcl hun g1 g2 =>
        have e : xs.getD k.toNat ei.zero = xs[k.toNat] := by simp [List.getD, hk']
        have e2 : es = ei.size := by rw [← hs, e]; exact (hun _ (List.getElem_mem hk')).symm
        subst e2
        exact ⟨_, _, h, fixed_elem hcl hun ⟨vals, g1, g2⟩ k.toNat hk' _, run_indexSlice hu he b o _ c k h0 h1 _ kk⟩
    · rename_i xs
      obtain ⟨⟨⟨h0, h1⟩, hs⟩, h⟩ := h
      have hk' : k.toNat < xs.length := by omega
      cases hx with
      | lit b o es _ vals hcm hcl hun g1 g2 =>
        have e : xs.getD k.toNat ei.zero = xs[k.toNat] := by simp [List.getD, hk']
        have e2 : es = ei.size := by rw [← hs, e]; exact (hun _ (List.getElem_mem hk')).symm
        subst e2
        exact ⟨_, _, h, fixed_elem hcl hun ⟨vals, g1, g2⟩ k.toNat hk' _, run_indexSlice hu he b o _ _ k h0 h1 _ kk⟩
    · rename_i hh n len
      replace h := so_inv h; obtain ⟨H, hH, ⟨h1, h2, h3, h4⟩, h⟩ := h
      cases hx with
      | row _ _ _ ad c hl hm hk2 hc hcm hnn hv =>
        have hL := (R.hm _ _ hH).L
        obtain ⟨_, hv⟩ := hv (by omega)
        have := hv (by omega)
        subst this
        refine ⟨_, _, h, .ref _ _ _ _ _ _ _ hl hm fun _ => ⟨rfl, ?_⟩, run_indexSlice hu he _ _ _ c k h3 h4 _ kk⟩
        omega
    · rename_i p len
      obtain ⟨hs, ⟨h0, h1⟩, h⟩ := h
      cases hx with
      | arr ad _ c _ ad' hp hc hcm hv =>
        obtain ⟨r, b, o, hK, e, hr⟩ := addr_sound h hp
        have e1 := hv (by omega)
        subst e1
        injection e with e
        injection e with e
        subst e
        refine ⟨r, _, hK, hr, ?_⟩
        have := run_indexSlice hu he b o len c k h0 h1 X.w kk
        rwa [hs, Nat.mul_one] at this
    · rename_i id off len cap
      obtain ⟨⟨h0, h1⟩, h⟩ := h
      cases hx with
      | ow _ _ _ _ ad q1 q2 q3 =>
        have := q3 (by omega)
        subst this
        exact ⟨_, _, h, .obj id _, run_indexSlice hu he id off len cap k h0 h1 _ kk⟩
  · rename_i n e hk
    replace h := so_inv h; obtain ⟨k, hk0, h⟩ := h
    obtain ⟨kk, rfl⟩ := rep_ix hix hk0
    replace h := ti_inv h; obtain ⟨ei, hei, ⟨h0, h1⟩, h⟩ := h
    have hu := C.array hi hk
    have he := C.T _ _ hei
    obtain ⟨r, b, o, hK, rfl, hr⟩ := addr_sound h hx
    exact ⟨r, _, hK, hr, run_indexArray hu he b o k h0 h1 _ kk⟩
theorem fits_spec {es : Nat} {ag : Bool} {x : V} (h : x.fits es ag = true) : x.isA = ag ∧ x.cells.length = es := by
  unfold V.fits at h
  split at h <;> simp_all [V.isA, V.cells]
theorem uni_iff {es : Nat} {ag : Bool} {xs : List V} : uni es ag xs = true ↔ ∀ x ∈ xs, x.fits es ag = true := by
  simp [uni]
theorem uni_len {es : Nat} {ag : Bool} {xs : List V} (h : uni es ag xs = true) : ∀ x ∈ xs, x.cells.length = es := fun x hx => (fits_spec (uni_iff.1 h x hx)).2
theorem cells_one {x : V} (h : x.isA = false) : x.cells = [x] := by
  cases x <;> simp_all [V.isA, V.cells]
theorem map_flat (ks vs : List V) : flat [.mc ks vs] = [] := rfl
theorem Home.readable {B : Base} {X : Lay} {own : Nat → Prop} {h : Nat} {H : Hm} (hm : Home B X own h H) : Readable X (X.j h).1 (X.j h).2 (flat H.els) := by
  rcases hm.lay with ⟨_, h0, _, _, hc, _⟩ | ⟨_, _, _, hf⟩ | ⟨_, _, hmap⟩
  · rw [h0]; exact hc.readable
  · exact hf.readable
  · obtain ⟨ks, vs, es, ck, rfl, _⟩ := hmap
    exact ⟨fun _ => undef, fun k hk => by simp [map_flat] at hk⟩
theorem load_sound {cx : Cx} (C : COk P cx) {B : Base} {X : Lay} {own : Nat → Prop} {st : St} {a : Act} (R : Rel B X own st a) {t : TypeId} {x : V} {K : V → Prop} {v : Value}
    (h : @load cx st t x ⟨K⟩) (hx : Rep X v x) : ∃ r u, K r ∧ Rep X u r ∧ (Instr.loadAt t v).run P X.w = .ok u X.w := by
  unfold load at h
  replace h := ti_inv h; obtain ⟨i, hi, h⟩ := h
  have hT := C.T _ _ hi
  split at h <;> first | exact h.elim | skip
  · rename_i cs off
    cases hx with
    | pc b o _ _ vals hc h1 h2 =>
      obtain ⟨r, u, hK, hr, hrun⟩ := loadVar_sound hT (Fixed.readable ⟨vals, h1, h2⟩) h
      exact ⟨r, u, hK, hr, by simp [Instr.loadAt, Instr.sureAddr, hrun]⟩
  · rename_i hh m es j off
    replace h := so_inv h; obtain ⟨H, hH, ⟨h1, h2, h3⟩, h⟩ := h
    have hm := R.hm _ _ hH
    cases hx with
    | ref _ _ _ _ _ b o hl hm' hv =>
      obtain ⟨rfl, rfl⟩ := hv (by rw [hm.L]; exact h1.symm)
      subst h3
      have hj : j < H.els.length := by omega
      have hrd := hm.readable.sub (j * H.es) H.es
      rw [flat_elem (uni_len hm.uni) j hj] at hrd
      unfold elemGet at h
      cases hag : H.ag with
      | true =>
        simp only [hag] at h
        have e : H.els.getD j .u = H.els[j] := by simp [List.getD, hj]
        rw [e] at h
        obtain ⟨r, u, hK, hr, hrun⟩ := loadVar_sound hT hrd h
        refine ⟨r, u, hK, hr, ?_⟩
        simpa [Instr.loadAt, Instr.sureAddr, Nat.add_assoc] using hrun
      | false =>
        simp only [hag] at h
        obtain ⟨⟨rfl, ha⟩, h⟩ := h
        have e : H.els.getD j i.zero = H.els[j] := by simp [List.getD, hj]
        rw [e] at h
        obtain ⟨e1, e2⟩ := fits_spec (uni_iff.1 hm.uni _ (List.getElem_mem hj))
        rw [hag] at e1
        rw [cells_one e1] at hrd
        have hp : @part i [H.els[j]] 0 ⟨K⟩ := by
          refine ⟨by rw [hasN_iff, hT.sz ha]; simp, ?_⟩
          simp only [ha]; exact h
        obtain ⟨r, u, hK, hr, hrun⟩ := loadVar_sound hT hrd hp
        refine ⟨r, u, hK, hr, ?_⟩
        simpa [Instr.loadAt, Instr.sureAddr, Nat.add_assoc] using hrun
  · rename_i id off
    replace h := so_inv h; obtain ⟨cs, hcs, h⟩ := h
    cases hx with
    | obj _ _ =>
      obtain ⟨r, u, hK, hr, hrun⟩ := loadVar_sound hT (R.ob _ _ hcs).cells.readable h
      exact ⟨r, u, hK, hr, by simpa [Instr.loadAt, Instr.sureAddr] using hrun⟩
theorem Fixed.take {X : Lay} {b o : Nat} {xs : List V} (n : Nat) (h : Fixed X b o (flat xs)) : Fixed X b o (flat (xs.take n)) := by
  have e : flat (xs.take n) = ((flat xs).drop 0).take (flat (xs.take n)).length := by
    rw [List.drop_zero]
    have : flat xs = flat (xs.take n) ++ flat (xs.drop n) := by
      unfold flat; rw [← List.flatMap_append, List.take_append_drop]
    rw [this, List.take_left]
  rw [e]
  exact h.sub 0 _
theorem Fixed.drop {X : Lay} {b o es : Nat} {xs : List V} (hu : ∀ x ∈ xs, x.cells.length = es) (n : Nat) (hn : n ≤ xs.length) (h : Fixed X b o (flat xs)) : Fixed X b (o + n * es) (flat (xs.drop n)) := by
  have e : flat (xs.drop n) = ((flat xs).drop (n * es)).take (flat xs).length := by
    have h1 : flat xs = flat (xs.take n) ++ flat (xs.drop n) := by
      unfold flat; rw [← List.flatMap_append, List.take_append_drop]
    have h2 : (flat (xs.take n)).length = n * es := by
      rw [flat_uniform (es := es) fun x hx => hu x (List.mem_of_mem_take hx), List.length_take, Nat.min_eq_left hn]
    rw [List.take_of_length_le (by simp)]
    conv => rhs; rw [h1]
    rw [List.drop_left' h2]
  rw [e]
  exact h.sub _ _
theorem cleans_take {xs : List V} (n : Nat) (h : cleans xs = true) : cleans (xs.take n) = true :=
  (cleans_iff _).2 fun x hx => (cleans_iff _).1 h x (List.mem_of_mem_take hx)
theorem cleans_drop {xs : List V} (n : Nat) (h : cleans xs = true) : cleans (xs.drop n) = true :=
  (cleans_iff _).2 fun x hx => (cleans_iff _).1 h x (List.mem_of_mem_drop hx)
def OptRep (X : Lay) (w : Option Value) (x : Option V) : Prop :=
  match x with
  | none => w = none
  | some y => ∃ u, w = some u ∧ Rep X u y
theorem bnd_inv {X : Lay} {x : Option V} {w : Option Value} {d : Int} {K : Int → Prop} (h : @bnd x d ⟨K⟩) (hw : OptRep X w x) :
    ∃ k, K k ∧ ((x = none ∧ w = none ∧ k = d) ∨ (x.isSome = true ∧ ∃ kd, w = some (.int kd k))) := by
  unfold bnd at h
  split at h <;> first | exact h.elim | skip
  · exact ⟨_, h, .inl ⟨rfl, hw, rfl⟩⟩
  · obtain ⟨u, rfl, hu⟩ := hw
    cases hu
    exact ⟨_, h, .inr ⟨rfl, _, rfl⟩⟩
  · obtain ⟨u, rfl, hu⟩ := hw
    cases hu
    exact ⟨_, h, .inr ⟨rfl, _, rfl⟩⟩
theorem run_sliceAt {t e : TypeId} {ei : TI} (hu : P.underlying t = some (.slice e)) (he : TOk P e ei) (ad : Option Addr) (len cap : Nat) (lo hi : Option Value) (a b : Int) (w : World)
    (h0 : 0 ≤ a) (h1 : a ≤ b) (h2 : b ≤ cap) (hlo : (lo = none ∧ a = 0) ∨ ∃ kd, lo = some (.int kd a)) (hhi : (hi = none ∧ b = len) ∨ ∃ kd, hi = some (.int kd b)) :
    (Instr.sliceAt t (.slice ad len cap) lo hi none).run P w =
      .ok (.slice (if cap = a.toNat then ad else ad.map (·.add (a.toNat * ei.size))) (b.toNat - a.toNat) (cap - a.toNat)) w := by
  obtain ⟨a, rfl⟩ := Int.eq_ofNat_of_zero_le h0
  obtain ⟨b, rfl⟩ := Int.eq_ofNat_of_zero_le (by omega : 0 ≤ b)
  have g1 : ∀ (kd : IntKind) (y : Nat), b ≤ y → ∀ code, (Instr.sliceBound (.int kd (b : Int)) y code).run P w = .ok b w := fun kd y hy code => by
    have := run_sliceBound (P := P) w kd (b : Int) y code (by omega) (by omega); simpa using this
  have g2 : ∀ (kd : IntKind) (y : Nat), a ≤ y → ∀ code, (Instr.sliceBound (.int kd (a : Int)) y code).run P w = .ok a w := fun kd y hy code => by
    have := run_sliceBound (P := P) w kd (a : Int) y code (by omega) (by omega); simpa using this
  have h1' : a ≤ b := by omega
  have h2' : b ≤ cap := by omega
  rcases hlo with ⟨rfl, e1⟩ | ⟨kd1, rfl⟩ <;> rcases hhi with ⟨rfl, e2⟩ | ⟨kd2, rfl⟩
  · obtain rfl : a = 0 := by omega
    obtain rfl : b = len := by omega
    simp [Instr.sliceAt, Instr.slice, run_underlying hu, Instr.sliceBounds, he.size]
  · obtain rfl : a = 0 := by omega
    simp [Instr.sliceAt, Instr.slice, run_underlying hu, Instr.sliceBounds, he.size, g1 _ _ h2']
  · obtain rfl : b = len := by omega
    simp [Instr.sliceAt, Instr.slice, run_underlying hu, Instr.sliceBounds, he.size, g2 _ _ h1']
  · simp [Instr.sliceAt, Instr.slice, run_underlying hu, Instr.sliceBounds, he.size, g1 _ _ h2', g2 _ _ h1']
theorem run_sliceArr {t e : TypeId} {ei : TI} {n : Nat} (hu : P.underlying t = some (.array n e)) (he : TOk P e ei) (ad : Addr) (lo hi mx : Option Value) (a b c : Int) (w : World)
    (h0 : 0 ≤ a) (h1 : a ≤ b) (h2 : b ≤ c) (h3 : c ≤ n) (hlo : (lo = none ∧ a = 0) ∨ ∃ kd, lo = some (.int kd a)) (hhi : (hi = none ∧ b = n) ∨ ∃ kd, hi = some (.int kd b))
    (hmx : (mx = none ∧ c = n) ∨ ((∃ kd, mx = some (.int kd c)) ∧ ∃ kd, hi = some (.int kd b))) :
    (Instr.sliceAt t (.pointer (some ad)) lo hi mx).run P w =
      .ok (.slice (some (if c.toNat = a.toNat then ad else ad.add (a.toNat * ei.size))) (b.toNat - a.toNat) (c.toNat - a.toNat)) w := by
  obtain ⟨a, rfl⟩ := Int.eq_ofNat_of_zero_le h0
  obtain ⟨b, rfl⟩ := Int.eq_ofNat_of_zero_le (by omega : 0 ≤ b)
  obtain ⟨c, rfl⟩ := Int.eq_ofNat_of_zero_le (by omega : 0 ≤ c)
  have g1 : ∀ (kd : IntKind) (y : Nat), b ≤ y → ∀ code, (Instr.sliceBound (.int kd (b : Int)) y code).run P w = .ok b w := fun kd y hy code => by
    have := run_sliceBound (P := P) w kd (b : Int) y code (by omega) (by omega); simpa using this
  have g2 : ∀ (kd : IntKind) (y : Nat), a ≤ y → ∀ code, (Instr.sliceBound (.int kd (a : Int)) y code).run P w = .ok a w := fun kd y hy code => by
    have := run_sliceBound (P := P) w kd (a : Int) y code (by omega) (by omega); simpa using this
  have g3 : ∀ (kd : IntKind) (y : Nat), c ≤ y → ∀ code, (Instr.sliceBound (.int kd (c : Int)) y code).run P w = .ok c w := fun kd y hy code => by
    have := run_sliceBound (P := P) w kd (c : Int) y code (by omega) (by omega); simpa using this
  have h1' : a ≤ b := by omega
  have h2' : b ≤ c := by omega
  have h3' : c ≤ n := by omega
  have h4' : b ≤ n := by omega
  rcases hmx with ⟨rfl, e3⟩ | ⟨⟨kd3, rfl⟩, ⟨kd4, rfl⟩⟩
  · obtain rfl : c = n := by omega
    rcases hlo with ⟨rfl, e1⟩ | ⟨kd1, rfl⟩ <;> rcases hhi with ⟨rfl, e2⟩ | ⟨kd2, rfl⟩
    · obtain rfl : a = 0 := by omega
      obtain rfl : b = c := by omega
      simp [Instr.sliceAt, Instr.sureAddr, run_underlying hu, Instr.sliceBounds, he.size]
    · obtain rfl : a = 0 := by omega
      simp [Instr.sliceAt, Instr.sureAddr, run_underlying hu, Instr.sliceBounds, he.size, g1 _ _ h2']
    · obtain rfl : b = c := by omega
      simp [Instr.sliceAt, Instr.sureAddr, run_underlying hu, Instr.sliceBounds, he.size, g2 _ _ h1']
    · simp [Instr.sliceAt, Instr.sureAddr, run_underlying hu, Instr.sliceBounds, he.size, g1 _ _ h2', g2 _ _ h1']
  · rcases hlo with ⟨rfl, e1⟩ | ⟨kd1, rfl⟩
    · obtain rfl : a = 0 := by omega
      simp [Instr.sliceAt, Instr.sureAddr, run_underlying hu, Instr.sliceBounds, he.size, g1 _ _ h2', g3 _ _ h3']
    · simp [Instr.sliceAt, Instr.sureAddr, run_underlying hu, Instr.sliceBounds, he.size, g1 _ _ h2', g2 _ _ h1', g3 _ _ h3']
theorem sub_sl {X : Lay} {b o c es : Nat} {xs : List V} (hcl : cleans xs = true) (hu : ∀ x ∈ xs, x.cells.length = es) (h : Fixed X b o (flat xs)) (k m : Nat) (h1 : k ≤ m) (h2 : m ≤ xs.length) (h3 : xs.length ≤ c) (h4 : c ≤ maxLen) :
    Rep X (.slice (if c = k then some ⟨b, o, none⟩ else some ⟨b, o + k * es, none⟩) (m - k) (c - k)) (.sl ((xs.take m).drop k)) := by
  have hl : ((xs.take m).drop k).length = m - k := by simp; omega
  by_cases e : m = k
  · subst e
    have : (xs.take m).drop m = [] := List.eq_nil_of_length_eq_zero (by omega)
    rw [this, Nat.sub_self]; exact .sl0 _ _
  · rw [if_neg (by omega), ← hl]
    have hu' : ∀ x ∈ xs.take m, x.cells.length = es := fun x hx => hu x (List.mem_of_mem_take hx)
    exact .sl_fixed (es := es) (by omega) (by omega) (cleans_drop _ (cleans_take _ hcl)) (fun x hx => hu' x (List.mem_of_mem_drop hx)) ((h.take m).drop hu' k (by simp; omega))
theorem int_nat {k : Int} (h : 0 ≤ k) : ∃ n : Nat, k = n := Int.eq_ofNat_of_zero_le h
theorem slice_sound {cx : Cx} (C : COk P cx) {X : Lay} {t : TypeId}
    {x : V} {lo hi mx : Option V} {lo' hi'' mx' : Option Value} {K : V → Prop} {v : Value}
    (h : @slice cx t x lo hi mx ⟨K⟩) (hx : Rep X v x) (hlo : OptRep X lo' lo) (hhi : OptRep X hi'' hi) (hmx : OptRep X mx' mx) :
    ∃ r u, K r ∧ Rep X u r ∧ (Instr.sliceAt t v lo' hi'' mx').run P X.w = .ok u X.w := by
  unfold slice at h
  replace h := ti_inv h; obtain ⟨i, hi', h⟩ := h
  split at h <;> first | exact h.elim | skip
  · rename_i e hk
    obtain ⟨hm, h⟩ := h
    replace h := ti_inv h; obtain ⟨ei, hei, h⟩ := h
    have hu := C.slice hi' hk
    have he := C.T _ _ hei
    have em : mx' = none := by
      cases mx with
      | none => exact hmx
      | some _ => simp at hm
    subst em
    have bl : ∀ {k : Int}, (lo = none ∧ lo' = none ∧ k = 0) ∨ (lo.isSome = true ∧ ∃ kd, lo' = some (.int kd k)) → (lo' = none ∧ k = 0) ∨ ∃ kd, lo' = some (.int kd k) := fun h => by
      rcases h with ⟨_, h1, h2⟩ | ⟨_, h1⟩
      · exact .inl ⟨h1, h2⟩
      · exact .inr h1
    have bh : ∀ {k d : Int}, (hi = none ∧ hi'' = none ∧ k = d) ∨ (hi.isSome = true ∧ ∃ kd, hi'' = some (.int kd k)) → (hi'' = none ∧ k = d) ∨ ∃ kd, hi'' = some (.int kd k) := fun h => by
      rcases h with ⟨_, h1, h2⟩ | ⟨_, h1⟩
      · exact .inl ⟨h1, h2⟩
      · exact .inr h1
    unfold sliceS at h
    split at h <;> first | exact h.elim | skip
    · rename_i xs
      obtain ⟨k, h, ha⟩ := bnd_inv h hlo
      obtain ⟨m, h, hb⟩ := bnd_inv h hhi
      obtain ⟨⟨⟨h0, h1, h2⟩, hun⟩, h⟩ := h
      obtain ⟨k, rfl⟩ := int_nat h0
      obtain ⟨m, rfl⟩ := int_nat (by omega : 0 ≤ m)
      simp only [Int.toNat_natCast] at h
      cases hx with
      | sl0 ad c =>
        have hm0 : m = 0 := by simp at h2; omega
        obtain rfl : k = 0 := by omega
        subst hm0
        refine ⟨_, _, h, ?_, run_sliceAt hu he ad 0 c lo' hi'' 0 0 _ (by omega) (by omega) (by omega) (bl ha) (bh hb)⟩
        simp; exact .sl0 _ _
      | sl b o c es _ vals hc hcm hcl hu' g1 g2 =>
        refine ⟨_, _, h, ?_, run_sliceAt hu he _ xs.length c lo' hi'' k m _ (by omega) (by omega) (by omega) (bl ha) (bh hb)⟩
        have es' : ∀ x ∈ xs, x.cells.length = ei.size := uni_len hun
        have := sub_sl (c := c) hcl es' ⟨vals, g1, g2⟩ k m (by omega) (by omega) hc hcm
        simpa [add_off] using this
    · rename_i xs
      obtain ⟨k, h, ha⟩ := bnd_inv h hlo
      obtain ⟨m, h, hb⟩ := bnd_inv h hhi
      obtain ⟨⟨⟨h0, h1, h2⟩, hun⟩, h⟩ := h
      obtain ⟨k, rfl⟩ := int_nat h0
      obtain ⟨m, rfl⟩ := int_nat (by omega : 0 ≤ m)
      simp only [Int.toNat_natCast] at h
      cases hx with
      | lit b o es _ vals hcm hcl hu' g1 g2 =>
        refine ⟨_, _, h, ?_, run_sliceAt hu he _ xs.length xs.length lo' hi'' k m _ (by omega) (by omega) (by omega) (bl ha) (bh hb)⟩
        have es' : ∀ x ∈ xs, x.cells.length = ei.size := uni_len hun
        have := sub_sl (c := xs.length) hcl es' ⟨vals, g1, g2⟩ k m (by omega) (by omega) (Nat.le_refl _) hcm
        simpa [add_off] using this
    · rename_i hh n len
      obtain ⟨k, h, ha⟩ := bnd_inv h hlo
      obtain ⟨m, h, hb⟩ := bnd_inv h hhi
      obtain ⟨⟨rfl, h1, h2⟩, h⟩ := h
      obtain ⟨m, rfl⟩ := int_nat h1
      simp only [Int.toNat_natCast] at h
      cases hx with
      | row _ _ _ ad c hl hm2 hk2 hc hcm hnn hv =>
        refine ⟨_, _, h, ?_, run_sliceAt hu he ad len c lo' hi'' 0 m _ (by omega) (by omega) (by omega) (bl ha) (bh hb)⟩
        have e : (if c = Int.toNat 0 then ad else ad.map (·.add (Int.toNat 0 * ei.size))) = ad := by
          split
          · rfl
          · cases ad <;> simp [Addr.add]
        rw [e]
        exact .row _ _ _ _ _ hl hm2 (by simp; omega) (by simp; omega) (by simp; omega) (fun e => by have := hnn e; simp; omega) hv
    · rename_i p len
      obtain ⟨k, h, ha⟩ := bnd_inv h hlo
      obtain ⟨m, h, hb⟩ := bnd_inv h hhi
      obtain ⟨⟨hs, h0, h1, h2⟩, h⟩ := h
      obtain ⟨k, rfl⟩ := int_nat h0
      obtain ⟨m, rfl⟩ := int_nat (by omega : 0 ≤ m)
      cases hx with
      | arr ad _ c _ ad' hp hc hcm hv =>
        obtain ⟨r, b, o, hK, e, hr⟩ := addr_sound h hp
        injection e with e
        injection e with e
        subst e
        refine ⟨_, _, hK, ?_, run_sliceAt hu he ad len c lo' hi'' k m _ (by omega) (by omega) (by omega) (bl ha) (bh hb)⟩
        have el : ((m : Int) - k).toNat = m - k := by omega
        rw [el]
        simp only [Int.toNat_natCast] at hr ⊢
        refine .arr _ _ _ _ _ hr (by omega) (by omega) fun hlt => ?_
        rw [if_neg (by omega), hv (by omega)]
        simp [add_off, hs]
    · rename_i id off len cap
      obtain ⟨k, h, ha⟩ := bnd_inv h hlo
      obtain ⟨m, h, hb⟩ := bnd_inv h hhi
      obtain ⟨⟨h0, h1, h2⟩, h⟩ := h
      obtain ⟨k, rfl⟩ := int_nat h0
      obtain ⟨m, rfl⟩ := int_nat (by omega : 0 ≤ m)
      cases hx with
      | ow _ _ _ _ ad q1 q2 q3 =>
        have hr := run_sliceAt hu he (some ad) len cap lo' hi'' k m X.w (by omega) (by omega) (by omega) (bl ha) (bh hb)
        have el : ((m : Int) - k).toNat = m - k := by omega
        rw [el] at h
        simp only [Int.toNat_natCast] at h hr
        obtain ⟨ad', e1, e2⟩ : ∃ ad', (if cap = k then some ad else (some ad).map (·.add (k * ei.size))) = some ad' ∧ (0 < cap - k → ad' = ⟨id, off + k * ei.size, none⟩) := by
          by_cases e : cap = k
          · exact ⟨ad, by simp [e], fun h => by omega⟩
          · refine ⟨ad.add (k * ei.size), by simp [e], fun h => ?_⟩
            rw [q3 (by omega), add_off]
        rw [e1] at hr
        exact ⟨_, _, h, .ow _ _ _ _ ad' (by omega) (by omega) e2, hr⟩
  · rename_i n e hk
    replace h := ti_inv h; obtain ⟨ei, hei, h⟩ := h
    have hu := C.array hi' hk
    have he := C.T _ _ hei
    obtain ⟨k, h, ha⟩ := bnd_inv h hlo
    obtain ⟨m, h, hb⟩ := bnd_inv h hhi
    obtain ⟨c, h, hc⟩ := bnd_inv h hmx
    obtain ⟨⟨hs, h0, h1, h2, h3, h4, hnm⟩, h⟩ := h
    obtain ⟨r, b, o, hK, rfl, hr⟩ := addr_sound h hx
    refine ⟨_, _, hK, ?_, run_sliceArr hu he ⟨b, o, none⟩ lo' hi'' mx' k m c _ h0 h1 h2 h3 ?_ ?_ ?_⟩
    · obtain ⟨k, rfl⟩ := int_nat h0
      obtain ⟨m, rfl⟩ := int_nat (by omega : 0 ≤ m)
      obtain ⟨c, rfl⟩ := int_nat (by omega : 0 ≤ c)
      have el : ((m : Int) - k).toNat = m - k := by omega
      rw [el]
      simp only [Int.toNat_natCast] at hr ⊢
      refine .arr _ _ _ _ _ hr (by omega) (by have : most ≤ maxLen := by decide
                                              omega) fun hlt => ?_
      rw [if_neg (by omega)]
      simp [add_off, hs]
    · rcases ha with ⟨_, g1, g2⟩ | ⟨_, g1⟩
      · exact .inl ⟨g1, g2⟩
      · exact .inr g1
    · rcases hb with ⟨_, g1, g2⟩ | ⟨_, g1⟩
      · exact .inl ⟨g1, g2⟩
      · exact .inr g1
    · rcases hc with ⟨_, g1, g2⟩ | ⟨g0, g1⟩
      · exact .inl ⟨g1, g2⟩
      · refine .inr ⟨g1, ?_⟩
        rcases hb with ⟨g3, _, _⟩ | ⟨_, g3⟩
        · have := h4 g0; simp [g3] at this
        · exact g3
end
end Go.Proofs.YteomkgcepiecjaaGreat.I
/- Aggregates that are put together of parts. -/
namespace Go.Proofs.YteomkgcepiecjaaGreat.I
open Go
theorem RepL.len {X : Lay} {vs : List Value} {xs : List V} (h : RepL X vs xs) : vs.length = xs.length := by
  induction h with
  | nil => rfl
  | cons _ _ ih => simp [ih]
theorem RepL.get {X : Lay} {vs : List Value} {xs : List V} (h : RepL X vs xs) : ∀ k (h1 : k < vs.length) (h2 : k < xs.length), Rep X vs[k] xs[k] := by
  induction h with
  | nil => intro k h1; simp at h1
  | cons h _ ih =>
    intro k h1 h2
    cases k with
    | zero => exact h
    | succ k => exact ih k (by simpa using h1) (by simpa using h2)
theorem RepL.append {X : Lay} {vs ws : List Value} {xs ys : List V} (h : RepL X vs xs) (g : RepL X ws ys) : RepL X (vs ++ ws) (xs ++ ys) := by
  induction h with
  | nil => exact g
  | cons h _ ih => exact .cons h ih
theorem RepL.take {X : Lay} {vs : List Value} {xs : List V} (h : RepL X vs xs) (n : Nat) : RepL X (vs.take n) (xs.take n) := by
  induction h generalizing n with
  | nil => simp; exact .nil
  | cons h _ ih => cases n with
    | zero => exact .nil
    | succ n => exact .cons h (ih n)
theorem RepL.drop {X : Lay} {vs : List Value} {xs : List V} (h : RepL X vs xs) (n : Nat) : RepL X (vs.drop n) (xs.drop n) := by
  induction h generalizing n with
  | nil => simp; exact .nil
  | cons h t ih => cases n with
    | zero => exact .cons h t
    | succ n => exact ih n
theorem RepL.mono {X Y : Lay} (le : X.Le Y) {vs : List Value} {xs : List V} (h : RepL X vs xs) : RepL Y vs xs := by
  induction h with
  | nil => exact .nil
  | cons h _ ih => exact .cons (h.mono le) ih
theorem RepL.splice {X : Lay} {vs ws : List Value} {xs ys : List V} (h : RepL X vs xs) (g : RepL X ws ys) (off : Nat) : RepL X (vs.take off ++ ws ++ vs.drop (off + ws.length)) (splice xs off ys) := by
  unfold I.splice
  rw [g.len]
  exact ((h.take off).append g).append (h.drop _)
theorem rep_cells {X : Lay} {v : Value} {x : V} {es : Nat} {ag : Bool} (h : Rep X v x) (hf : x.fits es ag = true) : RepL X v.cells.toList x.cells ∧ (∀ u ∈ v.cells, u.oneCell' = true) := by
  cases h with
  | agg vs cs hz h1 h2 =>
    simp only [Value.cells, V.cells]
    exact ⟨.of_get (by simpa using hz) fun k g1 g2 => by simpa using h2 k g2 (by simpa using g1), h1⟩
  | u v => simp [V.fits] at hf
  | tup vs cs => simp [V.fits] at hf
  | b x => exact ⟨.cons (.b x) .nil, by simp [Value.cells, Value.oneCell']⟩
  | n k x h1 h2 => exact ⟨.cons (.n k x h1 h2) .nil, by simp [Value.cells, Value.oneCell']⟩
  | z x h1 => exact ⟨.cons (.z x h1) .nil, by simp [Value.cells, Value.oneCell']⟩
  | s x h => exact ⟨.cons (.s x h) .nil, by simp [Value.cells, Value.oneCell']⟩
  | sl0 a c => exact ⟨.cons (.sl0 a c) .nil, by simp [Value.cells, Value.oneCell']⟩
  | sl b o c es xs vals h1 h2 h3 h4 h5 h6 => exact ⟨.cons (.sl b o c es xs vals h1 h2 h3 h4 h5 h6) .nil, by simp [Value.cells, Value.oneCell']⟩
  | lit b o es xs vals h2 h3 h4 h5 h6 => exact ⟨.cons (.lit b o es xs vals h2 h3 h4 h5 h6) .nil, by simp [Value.cells, Value.oneCell']⟩
  | nils => exact ⟨.cons .nils .nil, by simp [Value.cells, Value.oneCell']⟩
  | fn f vs cs us ds h1 h2 h3 h4 => exact ⟨.cons (.fn f vs cs us ds h1 h2 h3 h4) .nil, by simp [Value.cells, Value.oneCell']⟩
  | nilf => exact ⟨.cons .nilf .nil, by simp [Value.cells, Value.oneCell']⟩
  | ifc t v x h => exact ⟨.cons (.ifc t v x h) .nil, by simp [Value.cells, Value.oneCell']⟩
  | nili => exact ⟨.cons .nili .nil, by simp [Value.cells, Value.oneCell']⟩
  | ref h m es i off b o h1 h2 h3 => exact ⟨.cons (.ref h m es i off b o h1 h2 h3) .nil, by simp [Value.cells, Value.oneCell']⟩
  | pc b o cs off vals h1 h2 h3 => exact ⟨.cons (.pc b o cs off vals h1 h2 h3) .nil, by simp [Value.cells, Value.oneCell']⟩
  | obj id off => exact ⟨.cons (.obj id off) .nil, by simp [Value.cells, Value.oneCell']⟩
  | nilp => exact ⟨.cons .nilp .nil, by simp [Value.cells, Value.oneCell']⟩
  | nilm => exact ⟨.cons .nilm .nil, by simp [Value.cells, Value.oneCell']⟩
  | mp h b h1 h2 h3 => exact ⟨.cons (.mp h b h1 h2 h3) .nil, by simp [Value.cells, Value.oneCell']⟩
  | row h m len a c h1 h2 h3 h4 h5 h6 h7 => exact ⟨.cons (.row h m len a c h1 h2 h3 h4 h5 h6 h7) .nil, by simp [Value.cells, Value.oneCell']⟩
  | ow id off len cap ad h1 h2 h3 => exact ⟨.cons (.ow id off len cap ad h1 h2 h3) .nil, by simp [Value.cells, Value.oneCell']⟩
  | arr a len c p ad h1 h2 h3 h4 => exact ⟨.cons (.arr a len c p ad h1 h2 h3 h4) .nil, by simp [Value.cells, Value.oneCell']⟩
theorem foldl_set (off : Nat) : ∀ (vs : List Value) (k : Nat) (cs : Array Value), off + k + vs.length ≤ cs.size →
    ((vs.zipIdx k).foldl (fun cs p => cs.setIfInBounds (off + p.2) p.1) cs).toList = cs.toList.take (off + k) ++ vs ++ cs.toList.drop (off + k + vs.length)
  | [], k, cs, _ => by simp
  | v :: vs, k, cs, h => by
    simp only [List.zipIdx_cons, List.foldl_cons]
    rw [foldl_set off vs (k + 1) _ (by simp at h ⊢; omega)]
    simp only [List.length_cons] at h ⊢
    have hk : off + k < cs.toList.length := by simp; omega
    simp only [Array.toList_setIfInBounds]
    have e1 : (cs.toList.set (off + k) v).take (off + (k + 1)) = cs.toList.take (off + k) ++ [v] := by
      rw [show off + (k + 1) = off + k + 1 by omega, List.take_succ_eq_append_getElem (by simpa using hk), List.take_set_of_le (Nat.le_refl _)]
      simp
    rw [e1, List.drop_set_of_lt (by omega)]
    simp [show off + (k + 1) + vs.length = off + k + (vs.length + 1) by omega]
theorem fill_sound {X : Lay} {place : Nat → Option (Nat × Nat)} : ∀ (parts : List (Nat × Value)) (ps : List (Nat × V)) (cs : Array Value) (zs : List V),
    parts.length = ps.length → (∀ k (h1 : k < parts.length) (h2 : k < ps.length), ∃ n ag, place parts[k].1 = some (ps[k].1, n) ∧ ps[k].2.fits n ag = true ∧ Rep X parts[k].2 ps[k].2 ∧ ps[k].1 + n ≤ zs.length) →
    RepL X cs.toList zs → (∀ u ∈ cs, u.oneCell' = true) →
    ∃ cs', Instr.fill place cs parts = some cs' ∧ RepL X cs'.toList (I.fill zs ps) ∧ (∀ u ∈ cs', u.oneCell' = true)
  | [], [], cs, zs, _, _, h, h1 => ⟨cs, rfl, h, h1⟩
  | [], _ :: _, _, _, h, _, _, _ => by simp at h
  | _ :: _, [], _, _, h, _, _, _ => by simp at h
  | (j, v) :: parts, (off, x) :: ps, cs, zs, hl, hp, h, h1 => by
    obtain ⟨n, ag, e1, e2, e3, e4⟩ := hp 0 (by simp) (by simp)
    simp only [List.getElem_cons_zero] at e1 e2 e3 e4
    have hc := rep_cells e3 e2
    have hn : v.cells.size = n := by have := hc.1.len; rw [(fits_spec e2).2] at this; simpa using this
    have hz : cs.size = zs.length := by have := h.len; simpa using this
    have e5 : ¬ (v.cells.size ≠ n ∨ cs.size < off + v.cells.size) := by omega
    have ef := foldl_set off v.cells.toList 0 cs (by simp; omega)
    have efold : v.cells.zipIdx.foldl (fun cs p => cs.setIfInBounds (off + p.2) p.1) cs = (v.cells.toList.zipIdx.foldl (fun cs p => cs.setIfInBounds (off + p.2) p.1) cs) := by
      rw [← Array.foldl_toList]; simp
    have step : RepL X (v.cells.zipIdx.foldl (fun cs p => cs.setIfInBounds (off + p.2) p.1) cs).toList (splice zs off x.cells) := by
      rw [efold, ef]; simp only [Nat.add_zero]
      exact h.splice hc.1 off
    have one : ∀ u ∈ (v.cells.zipIdx.foldl (fun cs p => cs.setIfInBounds (off + p.2) p.1) cs), u.oneCell' = true := by
      intro u hu
      rw [← Array.mem_toList_iff, efold, ef] at hu
      simp only [List.mem_append] at hu
      rcases hu with (hu | hu) | hu
      · exact h1 _ (Array.mem_toList_iff.1 (List.mem_of_mem_take hu))
      · exact hc.2 _ (Array.mem_toList_iff.1 hu)
      · exact h1 _ (Array.mem_toList_iff.1 (List.mem_of_mem_drop hu))
    have hlen : (splice zs off x.cells).length = zs.length := by
      simp only [I.splice, List.length_append, List.length_take, List.length_drop, (fits_spec e2).2]; omega
    obtain ⟨cs', g1, g2, g3⟩ := fill_sound parts ps _ _ (by simpa using hl) (fun k k1 k2 => by
      obtain ⟨n', ag', f1, f2, f3, f4⟩ := hp (k + 1) (by simpa using k1) (by simpa using k2)
      simp only [List.getElem_cons_succ] at f1 f2 f3 f4
      exact ⟨n', ag', f1, f2, f3, by rw [hlen]; exact f4⟩) step one
    refine ⟨cs', ?_, g2, g3⟩
    simp only [Instr.fill, e1]
    rw [if_neg (by simp; omega)]
    exact g1
end Go.Proofs.YteomkgcepiecjaaGreat.I
/- Structs and arrays that are put together; memory that is made; stores. -/
namespace Go.Proofs.YteomkgcepiecjaaGreat.I
open Go
section
variable {P : Program}
theorem run_mapM_pure {α β : Type} (f : α → Sem β) (g : α → β) (w : World) : ∀ (l : List α), (∀ x ∈ l, (f x).run P w = .ok (g x) w) → (l.mapM f).run P w = .ok (l.map g) w
  | [], _ => by simp
  | x :: l, h => by
    rw [List.mapM_cons]
    simp [h x (by simp), run_mapM_pure f g w l fun y hy => h y (by simp [hy])]
theorem run_amapM_pure {α β : Type} (f : α → Sem β) (g : α → β) (w : World) (l : Array α) (h : ∀ x ∈ l, (f x).run P w = .ok (g x) w) : (l.mapM f).run P w = .ok (l.map g) w := by
  rw [Array.mapM_eq_mapM_toList, ← bind_pure_comp]
  have := run_mapM_pure (P := P) f g w l.toList fun x hx => h x (Array.mem_toList_iff.1 hx)
  simp [this, Result.andThen_ok]
  apply Array.ext'; simp
inductive RepP (X : Lay) : List (Nat × Value) → List (Nat × V) → Prop
  | nil : RepP X [] []
  | cons {j : Nat} {v : Value} {x : V} {vs : List (Nat × Value)} {xs : List (Nat × V)} : Rep X v x → RepP X vs xs → RepP X ((j, v) :: vs) ((j, x) :: xs)
theorem placeS_sound {cx : Cx} (C : COk P cx) {X : Lay} {F : Array Field} {zs : List V} {K : List (Nat × V) → Prop} :
    ∀ {parts : List (Nat × Value)} {xs : List (Nat × V)}, RepP X parts xs → @placeS cx (F.toList.map fun f => (f.offset, f.type)) zs xs ⟨K⟩ →
    ∃ ps, K ps ∧ parts.length = ps.length ∧ ∀ k (h1 : k < parts.length) (h2 : k < ps.length), ∃ n ag, (F.map fun f => (f.offset, P.cellsOf f.type))[parts[k].1]? = some (ps[k].1, n) ∧ ps[k].2.fits n ag = true ∧ Rep X parts[k].2 ps[k].2 ∧ ps[k].1 + n ≤ zs.length := by
  intro parts xs h
  induction h generalizing K with
  | nil => exact fun h => ⟨[], h, rfl, fun k h1 => by simp at h1⟩
  | @cons j v x vs xs hr _ ih =>
    intro h
    simp only [placeS] at h
    replace h := so_inv h; obtain ⟨p, hp, h⟩ := h
    replace h := ti_inv h; obtain ⟨fi, hfi, ⟨hf, hn⟩, h⟩ := h
    obtain ⟨ps, hK, hl, hps⟩ := ih h
    simp only [List.getElem?_map, Option.map_eq_some_iff] at hp
    obtain ⟨f, hf', rfl⟩ := hp
    refine ⟨_, hK, by simp [hl], fun k h1 h2 => ?_⟩
    cases k with
    | zero =>
      obtain ⟨inf, z, d, g1, g2, _⟩ := (C.T _ _ hfi).ex
      refine ⟨fi.size, fi.isAgg, ?_, hf, hr, (hasN_iff _ _ _).1 hn⟩
      have hf2 : F[j]? = some f := by simpa using hf'
      simp [hf2, Program.cellsOf, g1, g2]
    | succ k => exact hps k (by simpa using h1) (by simpa using h2)
theorem placeA_sound {X : Lay} {ei : TI} {zs : List V} {K : List (Nat × V) → Prop} :
    ∀ {parts : List (Nat × Value)} {xs : List (Nat × V)}, RepP X parts xs → @placeA ei zs xs ⟨K⟩ →
    ∃ ps, K ps ∧ parts.length = ps.length ∧ ∀ k (h1 : k < parts.length) (h2 : k < ps.length), ∃ n ag, some (parts[k].1 * ei.size, ei.size) = some (ps[k].1, n) ∧ ps[k].2.fits n ag = true ∧ Rep X parts[k].2 ps[k].2 ∧ ps[k].1 + n ≤ zs.length := by
  intro parts xs h
  induction h generalizing K with
  | nil => exact fun h => ⟨[], h, rfl, fun k h1 => by simp at h1⟩
  | @cons j v x vs xs hr _ ih =>
    intro h
    simp only [placeA] at h
    obtain ⟨⟨hf, hn⟩, h⟩ := h
    obtain ⟨ps, hK, hl, hps⟩ := ih h
    refine ⟨_, hK, by simp [hl], fun k h1 h2 => ?_⟩
    cases k with
    | zero => exact ⟨ei.size, ei.isAgg, rfl, hf, hr, (hasN_iff _ _ _).1 hn⟩
    | succ k => exact hps k (by simpa using h1) (by simpa using h2)
theorem zero_cells {t : TypeId} {i : TI} (hT : TOk P t i) (hag : i.isAgg = true) (X : Lay) : ∃ inf z, P.info? t = some inf ∧ inf.zero = some z ∧ RepL X z.cells.toList i.zero.cells ∧ (∀ u ∈ z.cells, u.oneCell' = true) := by
  obtain ⟨inf, z, d, h1, h2, h3, h4, h5, h6, h7, h8, h9⟩ := hT.ex
  refine ⟨inf, z, h1, h4, ?_, h9⟩
  have e : i.zero.fits i.size true = true := by
    have := hT.ft; rwa [hag] at this
  exact (rep_cells (h7 X) e).1
theorem build_sound {cx : Cx} (C : COk P cx) {X : Lay} {t : TypeId} {parts : Array (Nat × Value)} {xs : List (Nat × V)} {K : V → Prop} (hr : RepP X parts.toList xs) (h : @build cx t xs ⟨K⟩) :
    ∃ r u, K r ∧ Rep X u r ∧ (Instr.build t parts).run P X.w = .ok u X.w := by
  unfold build at h
  replace h := ti_inv h; obtain ⟨i, hi, h⟩ := h
  have hT := C.T _ _ hi
  split at h <;> first | exact h.elim | skip
  · rename_i fs hk
    have hag : i.isAgg = true := by simp [TI.isAgg, hk]
    obtain ⟨inf, z, h1, h4, hz, h9⟩ := zero_cells hT hag X
    obtain ⟨inf', z', d, g1, g2, g3, g4, g5, g6, _⟩ := hT.ex
    rw [hk] at g6
    obtain ⟨F, rfl, rfl, hF⟩ := g6
    obtain ⟨ps, hK, hl, hps⟩ := placeS_sound C hr h
    obtain ⟨cs', e1, e2, e3⟩ := fill_sound (X := X) (place := fun i => (F.map fun f => (f.offset, P.cellsOf f.type))[i]?) parts.toList ps z.cells i.zero.cells hl hps hz h9
    refine ⟨_, .agg cs', hK, .agg _ _ (by simpa using e2.len) e3 (fun k k1 k2 => by have := e2.get k (by simpa using k2) k1; rwa [Array.getElem_toList] at this), ?_⟩
    have em := run_amapM_pure (P := P) (fun f : Field => do pure (f.offset, ← sizeOf f.type)) (fun f => (f.offset, P.cellsOf f.type)) X.w F (fun f hf => by
      obtain ⟨inf, q1, _⟩ := hF f hf
      simp [run_sizeOf' q1, Program.cellsOf, q1])
    simp only [bind_pure_comp] at em
    simp only [Array.getElem?_map] at e1
    simp [Instr.build, run_zeroValue' h1 h4, run_underlying g5, em, e1]
  · rename_i n e hk
    replace h := ti_inv h; obtain ⟨ei, hei, h⟩ := h
    have he := C.T _ _ hei
    have hag : i.isAgg = true := by simp [TI.isAgg, hk]
    obtain ⟨inf, z, h1, h4, hz, h9⟩ := zero_cells hT hag X
    have hu := C.array hi hk
    obtain ⟨ps, hK, hl, hps⟩ := placeA_sound hr h
    obtain ⟨cs', e1, e2, e3⟩ := fill_sound (X := X) (place := fun i => some (i * ei.size, ei.size)) parts.toList ps z.cells i.zero.cells hl hps hz h9
    refine ⟨_, .agg cs', hK, .agg _ _ (by simpa using e2.len) e3 (fun k k1 k2 => by have := e2.get k (by simpa using k2) k1; rwa [Array.getElem_toList] at this), ?_⟩
    simp [Instr.build, run_zeroValue' h1 h4, run_underlying hu, he.size, e1]
theorem alloc_at (w : World) (o : Obj) (b off : Nat) (h : b < w.heap.size) : (w.alloc o).cell? ⟨b, off, none⟩ = w.cell? ⟨b, off, none⟩ :=
  World.cell?_of_block (heap_alloc_old w o b h)
def Lay.newHome (X : Lay) (d : Nat) (o : Obj) (cap L : Nat) : Lay :=
  { w := X.w.alloc o, S := X.S, live := fun h => h = d ∨ X.live h, j := fun h => if h = d then (X.w.heap.size, 0) else X.j h,
    cap := fun h => if h = d then cap else X.cap h, L := fun h => if h = d then L else X.L h }
theorem Lay.newHome_le {X : Lay} (sb : ∀ b o, X.S b o → b < X.w.heap.size) {d : Nat} (hd : ¬ X.live d) (o : Obj) (cap L : Nat) : X.Le (X.newHome d o cap L) where
  S := fun _ _ h => h
  w := fun b off h => alloc_at X.w o b off (sb b off h)
  live := fun _ h => .inr h
  hm := fun h hl => by
    have : h ≠ d := fun e => hd (e ▸ hl)
    simp [newHome, this]
theorem Home.mono {B : Base} {X Y : Lay} (le : X.Le Y) {own own' : Nat → Prop} {h : Nat} {H : Hm} (hm : Home B X own h H) (e1 : Y.L h = X.L h) (e2 : Y.j h = X.j h) (e3 : Y.cap h = X.cap h)
    (eo : own' h ↔ own h) (eb : own h → Y.w.heap[(X.j h).1]? = X.w.heap[(X.j h).1]?) (eS : ∀ o, own h → Y.S (X.j h).1 o → X.S (X.j h).1 o) : Home B Y own' h H where
  L := e1.trans hm.L
  uni := hm.uni
  lay := by
    rcases hm.lay with ⟨h1, h2, h3, h4, h5, h6, h7⟩ | ⟨h1, h2, h3, h4⟩ | ⟨h1, h2, ks, vs, es, ck, h3, h4, h5, h6, h7, h8⟩
    · refine .inl ⟨eo.2 h1, by rw [e2]; exact h2, by rw [e3]; exact h3, by rw [e3]; exact h4, ?_, by rw [e2]; exact h6, ?_⟩
      · rw [e2, e3]; exact h5.mono le (eb h1)
      · rw [e2]; exact fun o ho => h7 o (eS o h1 ho)
    · refine .inr (.inl ⟨fun h => h1 (eo.1 h), by rw [e3]; exact h2, h3, ?_⟩)
      rw [e2]; exact h4.mono le
    · refine .inr (.inr ⟨eo.2 h1, by rw [e3]; exact h2, ks, vs, es, ck, h3, ?_, by rw [e2]; exact h5, ?_, h7.mono le, h8.1.mono le, h8.2⟩)
      · rw [e2, eb h1]; exact h4
      · rw [e2]; exact fun o ho => h6 o (eS o h1 ho)
theorem Home.blk {B : Base} {X : Lay} {own : Nat → Prop} {h : Nat} {H : Hm} (hm : Home B X own h H) (ho : own h) : (X.j h).1 < X.w.heap.size := by
  rcases hm.lay with ⟨_, _, _, _, ⟨cur', ty', h1, _⟩, _⟩ | ⟨h1, _⟩ | ⟨_, _, ks, vs, es, ck, _, h4, _⟩
  · exact (Array.getElem?_eq_some_iff.1 h1).1
  · exact absurd ho h1
  · exact (Array.getElem?_eq_some_iff.1 h4).1
theorem Thing.mono {X Y : Lay} (le : X.Le Y) {id : Nat} {cs : List V} (h : Thing X id cs) (eb : Y.w.heap[id]? = X.w.heap[id]?) (eS : ∀ o, ¬ Y.S id o) : Thing Y id cs :=
  ⟨h.cl, h.cells.mono le eb, eS⟩
theorem mem_get_cons (m : Mem) (d : Nat) (H : Hm) (h : Nat) : Mem.get ((d, H) :: m) h = if h = d then some H else Mem.get m h := by
  simp [Mem.get]
theorem Rel.newHome {B : Base} {X : Lay} {own : Nat → Prop} {st : St} {a : Act} (R : Rel B X own st a) {d : Nat} (hd : st.mem.get d = none) {es : Nat} {ag : Bool} {els : List V} {fz : Bool}
    (hu : uni es ag els = true) (ty : TypeId) (cur : Array Value) (cap : Nat) (hc1 : els.length ≤ cap) (hc2 : cap ≤ maxLen) (hc3 : cur.size = cap * es)
    (hr : ∀ k (_ : k < (flat els).length) (h' : k < cur.size), Rep X cur[k] (flat els)[k] ∧ (cur[k]).oneCell' = true) {v : Value} {x : V}
    (hv : Rep (X.newHome d (.cells cur ty) cap els.length) v x) :
    Rel B (X.newHome d (.cells cur ty) cap els.length) (fun h => h = d ∨ own h) ⟨st.env.set d x, (d, ⟨es, ag, els, fz⟩) :: st.mem, st.om⟩ (a.put (some d) v) := by
  have hl : ¬ X.live d := fun h => by have := (R.lv d).1 h; rw [hd] at this; simp at this
  have le := Lay.newHome_le (X := X) R.sb hl (.cells cur ty) cap els.length
  have hne : ∀ h, X.live h → h ≠ d := fun h hh e => hl (e ▸ hh)
  have hblk : ∀ h, X.live h → own h → (X.j h).1 < X.w.heap.size := fun h hh ho => by
    have hs := (R.lv h).1 hh
    obtain ⟨H, hH⟩ := Option.isSome_iff_exists.1 hs
    exact (R.hm _ _ hH).blk ho
  have R' : Rel B (X.newHome d (.cells cur ty) cap els.length) (fun h => h = d ∨ own h) ⟨st.env, (d, ⟨es, ag, els, fz⟩) :: st.mem, st.om⟩ a := by
    refine ⟨R.tm, fun k h h' => (R.rp k h h').mono le, R.df, ?_, ?_, ?_, ?_, ?_, ?_, ?_, ?_, R.fS, R.fS', R.fo⟩
    · intro h
      simp only [mem_get_cons, Lay.newHome]
      by_cases e : h = d
      · simp [e]
      · simp [e, R.lv h]
    · intro h H hH
      simp only [mem_get_cons] at hH
      by_cases e : h = d
      · subst e
        simp only [if_true, Option.some.injEq] at hH
        subst hH
        refine ⟨by simp [Lay.newHome], hu, .inl ⟨.inl rfl, by simp [Lay.newHome], by simpa [Lay.newHome] using hc1, by simpa [Lay.newHome] using hc2, ?_, by simpa [Lay.newHome] using R.fn.size, ?_⟩⟩
        · refine ⟨cur, ty, by simpa [Lay.newHome] using heap_alloc_new X.w (.cells cur ty), by simpa [Lay.newHome] using hc3, ?_, fun k hk hk' => ⟨((hr k hk hk').1).mono le, (hr k hk hk').2⟩⟩
          rw [flat_uniform (uni_len hu)]; simp only [Lay.newHome, if_true]; exact Nat.mul_le_mul_right _ hc1
        · intro o ho
          simp only [Lay.newHome, if_true] at ho
          exact absurd (R.sb _ _ ho) (by omega)
      · simp only [e, if_false] at hH
        have hlv : X.live h := (R.lv h).2 (by simp [hH])
        refine (R.hm _ _ hH).mono le (by simp [Lay.newHome, e]) (by simp [Lay.newHome, e]) (by simp [Lay.newHome, e]) (by simp [e]) (fun ho => ?_) fun o _ h => h
        have := hblk h hlv ho
        exact heap_alloc_old X.w _ _ this
    · intro h h' hl1 hl2 ho1 ho2 e
      simp only [Lay.newHome] at hl1 hl2 e
      by_cases e1 : h = d <;> by_cases e2 : h' = d
      · rw [e1, e2]
      · simp only [e1, e2, if_true, if_false, false_or] at e hl2 ho2
        have := hblk h' hl2 ho2; omega
      · simp only [e1, e2, if_true, if_false, false_or] at e hl1 ho1
        have := hblk h hl1 ho1; omega
      · simp only [e1, e2, if_false, false_or] at e hl1 hl2 ho1 ho2
        exact R.ij h h' hl1 hl2 ho1 ho2 e
    · intro h hl1 ho
      simp only [Lay.newHome] at hl1 ⊢
      by_cases e : h = d
      · simp only [e, if_true]
        cases hom : st.om X.w.heap.size with
        | none => rfl
        | some cs =>
          obtain ⟨cur', ty', h1, _⟩ := (R.ob _ _ hom).cells
          have := (Array.getElem?_eq_some_iff.1 h1).1
          omega
      · simp only [e, if_false, false_or] at hl1 ho ⊢
        exact R.dj h hl1 ho
    · intro id cs hcs
      have ht := R.ob id cs hcs
      obtain ⟨cur', ty', h1, _⟩ := ht.cells
      exact ht.mono le (heap_alloc_old X.w _ _ (Array.getElem?_eq_some_iff.1 h1).1) ht.S
    · intro b o h
      have := R.sb b o h
      simp only [Lay.newHome, World.alloc, Array.size_push]; omega
    · exact R.fn.alloc _
    · intro b hb ho
      have := R.fn.size
      simp only [Lay.newHome]
      rw [heap_alloc_old X.w _ _ (by omega)]
      exact R.fb b hb ho
  exact R'.set (some d) hv
end
end Go.Proofs.YteomkgcepiecjaaGreat.I
/- Stores. -/
namespace Go.Proofs.YteomkgcepiecjaaGreat.I
open Go
section
variable {P : Program}
theorem repL_of_cells {X : Lay} {cur : Array Value} {cs : List V} (hl : cs.length ≤ cur.size) (h : ∀ k (_ : k < cs.length) (h' : k < cur.size), Rep X cur[k] cs[k] ∧ (cur[k]).oneCell' = true) :
    RepL X (cur.toList.take cs.length) cs ∧ ∀ u ∈ cur.toList.take cs.length, u.oneCell' = true := by
  refine ⟨.of_get (by simp; omega) fun k h1 h2 => ?_, fun u hu => ?_⟩
  · have := (h k h2 (by omega)).1
    simpa using this
  · obtain ⟨k, hk, rfl⟩ := List.mem_iff_getElem.1 hu
    simp only [List.length_take, Array.length_toList] at hk
    have := (h k (by omega) (by omega)).2
    simpa using this
theorem cells_of_repL {X : Lay} {vs rest : List Value} {cs : List V} (h : RepL X vs cs) (h1 : ∀ u ∈ vs, u.oneCell' = true) (k : Nat) (hk : k < cs.length) (h' : k < (vs ++ rest).toArray.size) :
    Rep X ((vs ++ rest).toArray[k]) cs[k] ∧ ((vs ++ rest).toArray[k]).oneCell' = true := by
  have hv : k < vs.length := by rw [h.len]; exact hk
  have e : (vs ++ rest).toArray[k] = vs[k] := by simp [List.getElem_append_left hv]
  rw [e]
  exact ⟨h.get k hv hk, h1 _ (List.getElem_mem hv)⟩
theorem set_cells {X : Lay} {cur : Array Value} {cs : List V} (hl : cs.length ≤ cur.size) (h : ∀ k (_ : k < cs.length) (h' : k < cur.size), Rep X cur[k] cs[k] ∧ (cur[k]).oneCell' = true)
    {ws : List Value} {ys : List V} (hw : RepL X ws ys) (hw1 : ∀ u ∈ ws, u.oneCell' = true) (off : Nat) (ho : off + ys.length ≤ cs.length) :
    ∃ cur' : Array Value, cur' = (cur.toList.take off ++ ws ++ cur.toList.drop (off + ws.length)).toArray ∧ cur'.size = cur.size ∧
      ∀ k (_ : k < (splice cs off ys).length) (h' : k < cur'.size), Rep X cur'[k] (splice cs off ys)[k] ∧ (cur'[k]).oneCell' = true := by
  obtain ⟨h1, h2⟩ := repL_of_cells hl h
  have hs := h1.splice hw off
  have hwl := hw.len
  refine ⟨_, rfl, by simp; omega, ?_⟩
  have e : cur.toList.take off ++ ws ++ cur.toList.drop (off + ws.length) =
      ((cur.toList.take cs.length).take off ++ ws ++ (cur.toList.take cs.length).drop (off + ws.length)) ++ cur.toList.drop cs.length := by
    rw [List.take_take, Nat.min_eq_left (by omega)]
    simp only [List.append_assoc]
    congr 2
    have : cur.toList = cur.toList.take cs.length ++ cur.toList.drop cs.length := (List.take_append_drop _ _).symm
    conv => lhs; rw [this]
    rw [List.drop_append_of_le_length (by simp; omega)]
  intro k hk h'
  simp only [e]
  refine cells_of_repL hs (fun u hu => ?_) k hk (by simpa [e] using h')
  simp only [List.mem_append] at hu
  rcases hu with (hu | hu) | hu
  · exact h2 _ (List.mem_of_mem_take hu)
  · exact hw1 _ hu
  · exact h2 _ (List.mem_of_mem_drop hu)
theorem write_le {X : Lay} {g : Nat} {cs : Array Value} (hS : ∀ o, ¬ X.S g o) : X.Le { X with w := X.w.setRow g cs } where
  S := fun _ _ h => h
  w := fun b o h => by
    have : b ≠ g := fun e => hS o (e ▸ h)
    exact World.cell?_of_block (setRow_other X.w g b cs this)
  live := fun _ h => h
  hm := fun _ _ => .inl ⟨rfl, rfl, rfl⟩
theorem setRow_size (w : World) (g : Nat) (cs : Array Value) : (w.setRow g cs).heap.size = w.heap.size := by
  simp [World.setRow]
theorem mem_get_put (m : Mem) (d : Nat) (H : Hm) (h : Nat) : (m.put d H).get h = if h = d then some H else m.get h := by
  induction m with
  | nil => simp [Mem.put, Mem.get]
  | cons p m ih =>
    obtain ⟨k, G⟩ := p
    simp only [Mem.put]
    by_cases e : d = k
    · subst e
      simp only [if_true, Mem.get]
      by_cases e2 : h = d <;> simp [e2]
    · simp only [e, if_false, Mem.get, ih]
      by_cases e2 : h = k
      · subst e2
        have : ¬ h = d := fun x => e x.symm
        simp [this]
      · simp [e2]
theorem Grown.setRow {a b : World} (h : Grown a b) (g : Nat) (cs : Array Value) : Grown a (b.setRow g cs) := ⟨by rw [setRow_size]; exact h.size, h.os, h.tape, h.output⟩
theorem Rel.write {B : Base} {X : Lay} {own : Nat → Prop} {st : St} {a : Act} (R : Rel B X own st a) {h : Nat} {H : Hm} (hH : st.mem.get h = some H) (ho : own h) (hfz : H.fz = false)
    {H' : Hm} (e1 : H'.els.length = H.els.length) (e2 : H'.es = H.es) (hu : uni H'.es H'.ag H'.els = true) (cur cur' : Array Value) (ty : TypeId) (hb : X.w.heap[(X.j h).1]? = some (.cells cur ty (0, 0))) (hsz : cur'.size = cur.size)
    (hr : ∀ k (_ : k < (flat H'.els).length) (h' : k < cur'.size), Rep X cur'[k] (flat H'.els)[k] ∧ (cur'[k]).oneCell' = true) :
    Rel B { X with w := X.w.setRow (X.j h).1 cur' } own ⟨st.env, st.mem.put h H', st.om⟩ a := by
  have hm := R.hm _ _ hH
  have hlive : X.live h := (R.lv h).2 (by simp [hH])
  obtain ⟨h2, h3, h4, h5, h6, h7⟩ : (X.j h).2 = 0 ∧ H.els.length ≤ X.cap h ∧ X.cap h ≤ maxLen ∧ Cells X (X.j h).1 (X.cap h * H.es) (flat H.els) ∧ B.w.heap.size ≤ (X.j h).1 ∧ (∀ o, X.S (X.j h).1 o → H.fz = true ∧ o < (flat H.els).length) := by
    rcases hm.lay with ⟨_, g⟩ | ⟨g, _⟩ | ⟨_, _, ks, vs, es, ck, rfl, _⟩
    · exact g
    · exact absurd ho g
    · cases hfz
  have hS : ∀ o, ¬ X.S (X.j h).1 o := fun o hs => by have := (h7 o hs).1; rw [hfz] at this; cases this
  have le := write_le (X := X) (g := (X.j h).1) (cs := cur') hS
  have hlen : (flat H'.els).length = (flat H.els).length := by
    rw [flat_uniform (uni_len hu), flat_uniform (uni_len hm.uni), e1, e2]
  refine ⟨R.tm, fun k g g' => (R.rp k g g').mono le, R.df, ?_, ?_, R.ij, R.dj, ?_, ?_, ?_, ?_, R.fS, R.fS', R.fo⟩
  · intro g
    simp only [mem_get_put]
    by_cases e : g = h
    · subst e; simp [hlive]
    · simp [e, R.lv g]
  · intro g G hG
    simp only [mem_get_put] at hG
    by_cases e : g = h
    · subst e
      simp only [if_true, Option.some.injEq] at hG
      subst hG
      obtain ⟨cur0, ty0, q1, q2, q3, q4⟩ := h5
      rw [hb] at q1
      injection q1 with q1
      injection q1 with q1 q1' q1''
      subst q1
      refine ⟨by rw [e1]; exact hm.L, hu, .inl ⟨ho, h2, by rw [e1]; exact h3, h4, ⟨cur', ty, setRow_heap X.w _ cur cur' ty (0, 0) hb, by rw [hsz, q2, e2], ?_, fun k hk hk' => ⟨((hr k hk hk').1).mono le, (hr k hk hk').2⟩⟩, h6, fun o hs => absurd hs (hS o)⟩⟩
      rw [hlen, e2]; exact q3
    · simp only [e, if_false] at hG
      have hl : X.live g := (R.lv g).2 (by simp [hG])
      refine (R.hm _ _ hG).mono le rfl rfl rfl Iff.rfl (fun ho' => ?_) fun o _ hs => hs
      exact setRow_other X.w _ _ _ fun e' => e (R.ij g h hl hlive ho' ho e')
  · intro id cs hcs
    refine (R.ob id cs hcs).mono le (setRow_other X.w _ _ _ fun e => ?_) (R.ob id cs hcs).S
    have := R.dj h hlive ho
    rw [← e, hcs] at this; cases this
  · intro b o hs; rw [setRow_size]; exact R.sb b o hs
  · exact R.fn.setRow _ _
  · intro b hlt hom
    rw [setRow_other X.w _ _ _ (by omega)]
    exact R.fb b hlt hom
theorem Rel.writeObj {B : Base} {X : Lay} {own : Nat → Prop} {st : St} {a : Act} (R : Rel B X own st a) {id : Nat} {cs : List V} (hcs : st.om id = some cs)
    {cs' : List V} (e1 : cs'.length = cs.length) (hcl : cleans cs' = true) (cur cur' : Array Value) (ty : TypeId) (hb : X.w.heap[id]? = some (.cells cur ty (0, 0))) (hsz : cur'.size = cur.size)
    (hr : ∀ k (_ : k < cs'.length) (h' : k < cur'.size), Rep X cur'[k] cs'[k] ∧ (cur'[k]).oneCell' = true) :
    Rel B { X with w := X.w.setRow id cur' } own ⟨st.env, st.mem, st.om.put id cs'⟩ a := by
  have ht := R.ob id cs hcs
  have le := write_le (X := X) (g := id) (cs := cur') ht.S
  refine ⟨R.tm, fun k g g' => (R.rp k g g').mono le, R.df, R.lv, ?_, R.ij, ?_, ?_, ?_, ?_, ?_, R.fS, R.fS', ?_⟩
  · intro g G hG
    have hl : X.live g := (R.lv g).2 (by simp [hG])
    refine (R.hm _ _ hG).mono le rfl rfl rfl Iff.rfl (fun ho' => ?_) fun o _ hs => hs
    refine setRow_other X.w _ _ _ fun e => ?_
    have := R.dj g hl ho'
    rw [e, hcs] at this; cases this
  · intro g hl ho
    have := R.dj g hl ho
    simp only [Om.put]
    split
    · rename_i e; rw [e, hcs] at this; cases this
    · exact this
  · intro i ds hds
    simp only [Om.put] at hds
    split at hds
    · rename_i e; subst e
      injection hds with hds; subst hds
      obtain ⟨cur0, ty0, q1, q2, q3, q4⟩ := ht.cells
      rw [hb] at q1
      injection q1 with q1
      injection q1 with q1 q1' q1''
      subst q1
      exact ⟨hcl, ⟨cur', ty, setRow_heap X.w _ cur cur' ty (0, 0) hb, by omega, Nat.le_refl _, fun k hk hk' => ⟨((hr k hk hk').1).mono le, (hr k hk hk').2⟩⟩, ht.S⟩
    · rename_i e
      exact (R.ob i ds hds).mono le (setRow_other X.w _ _ _ e) (R.ob i ds hds).S
  · intro b o hs; rw [setRow_size]; exact R.sb b o hs
  · exact R.fn.setRow _ _
  · intro b hlt hom
    by_cases e : b = id
    · subst e
      exact absurd hom (R.fo b (by rw [hcs]; simp) hlt)
    · rw [setRow_other X.w _ _ _ e]
      exact R.fb b hlt hom
  · intro i hi hlt
    simp only [Om.put] at hi
    split at hi
    · rename_i e; subst e; exact R.fo i (by rw [hcs]; simp) hlt
    · exact R.fo i hi hlt
end
end Go.Proofs.YteomkgcepiecjaaGreat.I
/- Values handed on: what is still being made is made fast. -/
namespace Go.Proofs.YteomkgcepiecjaaGreat.I
open Go
section
variable {P : Program}
theorem Lay.Le.trans {X Y Z : Lay} (h : X.Le Y) (g : Y.Le Z) : X.Le Z where
  S := fun b o hs => g.S b o (h.S b o hs)
  w := fun b o hs => (g.w b o (h.S b o hs)).trans (h.w b o hs)
  live := fun k hk => g.live k (h.live k hk)
  hm := fun k hk => by
    rcases h.hm k hk with ⟨e1, e2, e3⟩ | e <;> rcases g.hm k (h.live k hk) with ⟨f1, f2, f3⟩ | f
    · exact .inl ⟨f1.trans e1, f2.trans e2, f3.trans e3⟩
    · exact .inr (by omega)
    · exact .inr (by omega)
    · exact .inr (by omega)
def Lay.fast (X : Lay) (b n : Nat) : Lay := { X with S := fun c o => X.S c o ∨ (c = b ∧ o < n) }
theorem Lay.fast_le (X : Lay) (b n : Nat) : X.Le (X.fast b n) := ⟨fun _ _ h => .inl h, fun _ _ _ => rfl, fun _ h => h, fun _ _ => .inl ⟨rfl, rfl, rfl⟩⟩
theorem Cells.fixed {X : Lay} {b n : Nat} {cs : List V} (h : Cells X b n cs) : Fixed (X.fast b cs.length) b 0 cs := by
  obtain ⟨cur, ty, h1, h2, h3, h4⟩ := h
  refine ⟨fun k => cur.getD k undef, fun k hk => ?_, fun k hk => ?_⟩
  · have hk' : k < cur.size := by omega
    have e : cur.getD k undef = cur[k] := by simp [Array.getD, hk']
    simp only [e]
    refine ⟨.inr ⟨rfl, by omega⟩, ?_, (h4 k hk hk').2⟩
    simp only [Lay.at, Lay.fast, Nat.zero_add]
    simp [World.cell?, h1, hk']
  · have hk' : k < cur.size := by omega
    have e : cur.getD k undef = cur[k] := by simp [Array.getD, hk']
    simp only [e]
    exact ((h4 k hk hk').1).mono (X.fast_le _ _)
theorem Rel.freeze {B : Base} {X : Lay} {own : Nat → Prop} {st : St} {a : Act} (R : Rel B X own st a) {h : Nat} {H : Hm} (hH : st.mem.get h = some H) :
    ∃ Y, X.Le Y ∧ Y.w = X.w ∧ Y.j = X.j ∧ Y.L = X.L ∧ Y.cap = X.cap ∧ Y.live = X.live ∧ Rel B Y own ⟨st.env, st.mem.put h ⟨H.es, H.ag, H.els, true⟩, st.om⟩ a ∧ Fixed Y (X.j h).1 (X.j h).2 (flat H.els) := by
  have hm := R.hm _ _ hH
  have hlive : X.live h := (R.lv h).2 (by simp [hH])
  have lv' : ∀ g, X.live g ↔ ((st.mem.put h ⟨H.es, H.ag, H.els, true⟩).get g).isSome := fun g => by
    simp only [mem_get_put]
    by_cases e : g = h
    · subst e; simp [hlive]
    · simp [e, R.lv g]
  rcases hm.lay with ⟨ho, q0, q1, q2, q3, q4, q5⟩ | ⟨ho, q1, q2, q3⟩ | ⟨ho, q1, ks, vs, es, ck, rfl, q2⟩
  · have le := X.fast_le (X.j h).1 (flat H.els).length
    have hblk : (X.j h).1 < X.w.heap.size := by
      obtain ⟨cur, ty, h1, _⟩ := q3
      exact (Array.getElem?_eq_some_iff.1 h1).1
    refine ⟨X.fast (X.j h).1 (flat H.els).length, le, rfl, rfl, rfl, rfl, rfl, ⟨R.tm, fun k g g' => (R.rp k g g').mono le, R.df, lv', ?_, R.ij, R.dj, ?_, ?_, R.fn, R.fb, fun b o hs => .inl (R.fS b o hs), ?_, R.fo⟩, ?_⟩
    · intro g G hG
      simp only [mem_get_put] at hG
      by_cases e : g = h
      · subst e
        simp only [if_true, Option.some.injEq] at hG
        subst hG
        refine ⟨hm.L, hm.uni, .inl ⟨ho, q0, q1, q2, q3.mono le rfl, q4, fun o hs => ?_⟩⟩
        rcases hs with hs | hs
        · exact ⟨rfl, (q5 o hs).2⟩
        · exact ⟨rfl, hs.2⟩
      · simp only [e, if_false] at hG
        have hl : X.live g := (R.lv g).2 (by simp [hG])
        refine (R.hm _ _ hG).mono le rfl rfl rfl Iff.rfl (fun _ => rfl) fun o ho' hs => ?_
        rcases hs with hs | hs
        · exact hs
        · exact absurd (R.ij g h hl hlive ho' ho hs.1) e
    · intro id cs hcs
      have ht := R.ob id cs hcs
      refine ht.mono le rfl fun o hs => ?_
      rcases hs with hs | hs
      · exact ht.S o hs
      · have := R.dj h hlive ho
        rw [← hs.1, hcs] at this; cases this
    · intro b o hs
      rcases hs with hs | hs
      · exact R.sb b o hs
      · rw [hs.1]; exact hblk
    · intro b o hs hb
      rcases hs with hs | hs
      · exact R.fS' b o hs hb
      · rw [hs.1] at hb; omega
    · rw [q0]; exact q3.fixed
  · refine ⟨X, .refl X, rfl, rfl, rfl, rfl, rfl, { R with lv := lv', hm := ?_ }, q3⟩
    intro g G hG
    simp only [mem_get_put] at hG
    by_cases e : g = h
    · subst e
      simp only [if_true, Option.some.injEq] at hG
      subst hG
      exact ⟨hm.L, hm.uni, .inr (.inl ⟨ho, q1, .inl rfl, q3⟩)⟩
    · simp only [e, if_false] at hG
      exact R.hm _ _ hG
  · refine ⟨X, .refl X, rfl, rfl, rfl, rfl, rfl, { R with lv := lv', hm := ?_ }, fun _ => undef, fun k hk => by simp [map_flat] at hk, fun k hk => by simp [map_flat] at hk⟩
    intro g G hG
    simp only [mem_get_put] at hG
    by_cases e : g = h
    · subst e
      simp only [if_true, Option.some.injEq] at hG
      subst hG
      exact R.hm _ _ hH
    · simp only [e, if_false] at hG
      exact R.hm _ _ hG
theorem give1_sound {B : Base} {X : Lay} {own : Nat → Prop} {st : St} {a : Act} (R : Rel B X own st a) {x : V} {K : St → V → Prop} {v : Value} (h : @give1 st x ⟨K⟩) (hx : Rep X v x) :
    ∃ st' Y y, K st' y ∧ X.Le Y ∧ Y.w = X.w ∧ Rel B Y own st' a ∧ Rep Y v y ∧ y.clean = true ∧ (∀ es ag, x.fits es ag = true → y.fits es ag = true) ∧ st'.env = st.env ∧ st'.om = st.om := by
  unfold give1 at h
  split at h
  · rename_i hh n len
    obtain ⟨H, hH, ⟨hn, hcl⟩, h⟩ := so_inv h
    obtain ⟨Y, le, e1, e2, e3, e4, e5, R', hf⟩ := R.freeze hH
    have hm := R.hm _ _ hH
    cases hx with
    | row _ _ _ ad c hl hm' hk hc hcm hnn hv =>
      refine ⟨_, Y, _, h, le, e1, R', ?_, rfl, fun _ _ h => h, rfl, rfl⟩
      obtain ⟨hc', hv⟩ := hv (by rw [hm.L]; exact hn.symm)
      by_cases e : len = 0
      · subst e; simp only [List.take_zero]; exact .sl0 _ _
      · have := hv (by omega)
        subst this
        have hlen : (H.els.take len).length = len := by simp; omega
        have := (hf.take len).sub 0 (flat (H.els.take len)).length
        rw [List.drop_zero, List.take_length, Nat.add_zero] at this
        have := Rep.sl_fixed (c := c) (xs := H.els.take len) (by omega) hcm (cleans_take _ hcl) (fun x hx => uni_len hm.uni x (List.mem_of_mem_take hx)) this
        rwa [hlen] at this
  · cases hx
    exact ⟨_, X, _, h, .refl X, rfl, R, .sl0 _ _, rfl, fun _ _ h => h, rfl, rfl⟩
  · cases hx with
    | lit b o es _ vals hcm hcl hu h1 h2 => exact ⟨_, X, _, h, .refl X, rfl, R, .sl b o _ es _ vals (Nat.le_refl _) hcm hcl hu h1 h2, rfl, fun _ _ h => h, rfl, rfl⟩
  · exact ⟨_, X, _, h.2, .refl X, rfl, R, hx, h.1, fun _ _ h => h, rfl, rfl⟩
theorem gives1_sound {B : Base} {own : Nat → Prop} {a : Act} : ∀ {xs : List V} {vs : List Value} {X : Lay} {st : St} {K : St → List V → Prop}, Rel B X own st a → @gives1 st xs ⟨K⟩ → RepL X vs xs →
    ∃ st' Y ys, K st' ys ∧ X.Le Y ∧ Y.w = X.w ∧ Rel B Y own st' a ∧ RepL Y vs ys ∧ cleans ys = true ∧ st'.env = st.env ∧ st'.om = st.om
  | [], vs, X, st, K, R, h, hr => ⟨st, X, [], h, .refl X, rfl, R, hr, rfl, rfl, rfl⟩
  | x :: xs, vs, X, st, K, R, h, hr => by
    cases hr with
    | cons hx hr =>
      simp only [gives1] at h
      obtain ⟨st1, Y, y, h, le, ew, R1, hy, hc, _, e1, e2⟩ := give1_sound R h hx
      obtain ⟨st2, Z, ys, h, le2, ew2, R2, hys, hcs, e3, e4⟩ := gives1_sound R1 h (hr.mono le)
      refine ⟨st2, Z, y :: ys, h, le.trans le2, ew2.trans ew, R2, .cons (hy.mono le2) hys, by simp [cleans, hc, hcs], e3.trans e1, e4.trans e2⟩
theorem give_sound {B : Base} {X : Lay} {own : Nat → Prop} {st : St} {a : Act} (R : Rel B X own st a) {x : V} {K : St → V → Prop} {v : Value} (h : @give st x ⟨K⟩) (hx : Rep X v x) :
    ∃ st' Y y, K st' y ∧ X.Le Y ∧ Y.w = X.w ∧ Rel B Y own st' a ∧ Rep Y v y ∧ y.clean = true ∧ (∀ es ag, x.fits es ag = true → y.fits es ag = true) ∧ st'.env = st.env ∧ st'.om = st.om := by
  unfold give at h
  split at h
  · rename_i cs
    cases hx with
    | agg vs _ hz h1 h2 =>
      have hr : RepL X vs.toList cs := .of_get (by simpa using hz) fun k k1 k2 => by simpa using h2 k k2 (by simpa using k1)
      obtain ⟨st', Y, ys, h, le, ew, R', hys, hcl, e1, e2⟩ := gives1_sound R h hr
      have hl := hys.len
      have hl0 := hr.len
      refine ⟨st', Y, _, h, le, ew, R', .agg vs ys (by simpa using hl) h1 fun k k1 k2 => by have := hys.get k (by simpa using k2) k1; rwa [Array.getElem_toList] at this, by simpa [V.clean] using hcl, fun es ag hf => ?_, e1, e2⟩
      simp only [V.fits, Bool.and_eq_true, beq_iff_eq] at hf ⊢
      exact ⟨hf.1, by omega⟩
  · exact give1_sound R h hx
theorem gives_sound {B : Base} {own : Nat → Prop} {a : Act} : ∀ {xs : List V} {vs : List Value} {X : Lay} {st : St} {K : St → List V → Prop}, Rel B X own st a → @gives st xs ⟨K⟩ → RepL X vs xs →
    ∃ st' Y ys, K st' ys ∧ X.Le Y ∧ Y.w = X.w ∧ Rel B Y own st' a ∧ RepL Y vs ys ∧ cleans ys = true ∧ st'.env = st.env ∧ st'.om = st.om
  | [], vs, X, st, K, R, h, hr => ⟨st, X, [], h, .refl X, rfl, R, hr, rfl, rfl, rfl⟩
  | x :: xs, vs, X, st, K, R, h, hr => by
    cases hr with
    | cons hx hr =>
      simp only [gives] at h
      obtain ⟨st1, Y, y, h, le, ew, R1, hy, hc, _, e1, e2⟩ := give_sound R h hx
      obtain ⟨st2, Z, ys, h, le2, ew2, R2, hys, hcs, e3, e4⟩ := gives_sound R1 h (hr.mono le)
      refine ⟨st2, Z, y :: ys, h, le.trans le2, ew2.trans ew, R2, .cons (hy.mono le2) hys, by simp [cleans, hc, hcs], e3.trans e1, e4.trans e2⟩
def Lay.block (X : Lay) (o : Obj) (n : Nat) : Lay := { X with w := X.w.alloc o, S := fun b k => X.S b k ∨ (b = X.w.heap.size ∧ k < n) }
theorem Rel.block {B : Base} {X : Lay} {own : Nat → Prop} {st : St} {a : Act} (R : Rel B X own st a) (o : Obj) (n : Nat) : X.Le (X.block o n) ∧ Rel B (X.block o n) own st a := by
  have le : X.Le (X.block o n) := ⟨fun _ _ h => .inl h, fun b off h => alloc_at X.w o b off (R.sb b off h), fun _ h => h, fun _ _ => .inl ⟨rfl, rfl, rfl⟩⟩
  refine ⟨le, R.tm, fun k h h' => (R.rp k h h').mono le, R.df, R.lv, ?_, R.ij, R.dj, ?_, ?_, ?_, ?_, fun b k h => .inl (R.fS b k h), ?_, R.fo⟩
  · intro g G hG
    have hl : X.live g := (R.lv g).2 (by simp [hG])
    have hblk : own g → (X.j g).1 < X.w.heap.size := fun ho => by
      exact (R.hm _ _ hG).blk ho
    refine (R.hm _ _ hG).mono le rfl rfl rfl Iff.rfl (fun ho => heap_alloc_old X.w _ _ (hblk ho)) fun k ho hs => ?_
    rcases hs with hs | hs
    · exact hs
    · have := hblk ho; omega
  · intro id cs hcs
    have ht := R.ob id cs hcs
    obtain ⟨cur', ty', h1, _⟩ := ht.cells
    have hid := (Array.getElem?_eq_some_iff.1 h1).1
    refine ht.mono le (heap_alloc_old X.w _ _ hid) fun k hs => ?_
    rcases hs with hs | hs
    · exact ht.S k hs
    · omega
  · intro b k hs
    show b < (X.w.heap.push o).size
    rw [Array.size_push]
    rcases hs with hs | hs
    · have := R.sb b k hs; omega
    · omega
  · exact R.fn.alloc o
  · intro b hb ho
    have := R.fn.size
    exact (heap_alloc_old X.w o b (by omega)).trans (R.fb b hb ho)
  · intro b k hs hb
    rcases hs with hs | hs
    · exact R.fS' b k hs hb
    · have := R.fn.size; omega
theorem Rel.thing {B : Base} {X : Lay} {own : Nat → Prop} {st : St} {a : Act} (R : Rel B X own st a) {cs : List V} (vs : Array Value) (ty : TypeId) (hcl : cleans cs = true) (hr : RepL X vs.toList cs) (h1 : ∀ v ∈ vs, v.oneCell' = true) :
    ∃ Y, Y.w = X.w.alloc (.cells vs ty) ∧ st.om X.w.heap.size = none ∧ Rel B Y own ⟨st.env, st.mem, st.om.put X.w.heap.size cs⟩ a := by
  obtain ⟨le, R'⟩ := R.block (.cells vs ty) 0
  have hnone : st.om X.w.heap.size = none := by
    cases e : st.om X.w.heap.size with
    | none => rfl
    | some cs =>
      obtain ⟨cur, ty, c1, _⟩ := (R.ob _ _ e).cells
      have := (Array.getElem?_eq_some_iff.1 c1).1
      omega
  refine ⟨X.block (.cells vs ty) 0, rfl, hnone, R'.tm, R'.rp, R'.df, R'.lv, R'.hm, R'.ij, fun g hl ho => ?_, fun id ds hds => ?_, R'.sb, R'.fn, R'.fb, R'.fS, R'.fS', fun id hid hlt => ?_⟩
  · simp only [Om.put]
    split
    · rename_i e
      obtain ⟨H, hH⟩ := Option.isSome_iff_exists.1 ((R.lv g).1 hl)
      have := (R.hm _ _ hH).blk ho
      have e' : (X.j g).1 = X.w.heap.size := e
      omega
    · exact R.dj g hl ho
  · simp only [Om.put] at hds
    split at hds
    · rename_i e; subst e
      injection hds with hds; subst hds
      have hl := hr.len
      refine ⟨hcl, ⟨vs, ty, heap_alloc_new X.w _, by simpa using hl, Nat.le_refl _, fun k hk hk' => ⟨?_, h1 _ (Array.getElem_mem hk')⟩⟩, fun o hs => ?_⟩
      · have := hr.get k (by simpa using hk') hk
        exact Rep.mono le (by simpa using this)
      · rcases hs with hs | hs
        · have := R.sb _ _ hs; omega
        · omega
    · exact R'.ob id ds hds
  · simp only [Om.put] at hid
    split at hid
    · rename_i e; subst e
      have := R.fn.size; omega
    · exact R.fo id hid hlt
theorem thing_sound {B : Base} {X : Lay} {own : Nat → Prop} {st : St} {a : Act} (R : Rel B X own st a) {dst : Option Tmp} {x : V} {K : St → Prop} {v : Value} {es : Nat} {ag : Bool} (ty : TypeId) (h : @thing st dst x ⟨K⟩) (hx : Rep X v x) (hf : x.fits es ag = true) :
    ∃ st' Y, K st' ∧ Y.w = X.w.alloc (.cells v.cells ty) ∧ Rel B Y own st' (a.put dst (.pointer (some ⟨X.w.heap.size, 0, none⟩))) := by
  unfold thing at h
  obtain ⟨st1, Y, y, h, le, ew, R1, hy, hc, hfy, e1, e2⟩ := give_sound R h hx
  obtain ⟨d, rfl, h⟩ := so_inv h
  obtain ⟨h1, h2⟩ := rep_cells hy (hfy _ _ hf)
  obtain ⟨Z, ez, hn, R2⟩ := R1.thing v.cells ty (clean_cells hc) h1 h2
  rw [ew] at ez hn R2
  have := h _ hn
  refine ⟨_, Z, this, ez, ?_⟩
  exact R2.set (some d) (.obj _ _)
end
end Go.Proofs.YteomkgcepiecjaaGreat.I
/- Maps: made, looked up, set. -/
namespace Go.Proofs.YteomkgcepiecjaaGreat.I
open Go
set_option linter.unusedVariables false
set_option linter.unusedSimpArgs false
section
variable {P : Program}
theorem Rel.newMap {B : Base} {X : Lay} {own : Nat → Prop} {st : St} {a : Act} (R : Rel B X own st a) {d : Nat} (hd : st.mem.get d = none) :
    Rel B (X.newHome d (.map #[] 0) 0 1) (fun h => h = d ∨ own h) ⟨st.env.set d (.mp d), (d, ⟨0, true, [.mc [] []], true⟩) :: st.mem, st.om⟩ (a.put (some d) (.map (some X.w.heap.size))) := by
  have hl : ¬ X.live d := fun h => by have := (R.lv d).1 h; rw [hd] at this; simp at this
  have le := Lay.newHome_le (X := X) R.sb hl (.map #[] 0) 0 1
  have hblk : ∀ h, X.live h → own h → (X.j h).1 < X.w.heap.size := fun h hh ho => by
    have hs := (R.lv h).1 hh
    obtain ⟨H, hH⟩ := Option.isSome_iff_exists.1 hs
    exact (R.hm _ _ hH).blk ho
  have R' : Rel B (X.newHome d (.map #[] 0) 0 1) (fun h => h = d ∨ own h) ⟨st.env, (d, ⟨0, true, [.mc [] []], true⟩) :: st.mem, st.om⟩ a := by
    refine ⟨R.tm, fun k h h' => (R.rp k h h').mono le, R.df, ?_, ?_, ?_, ?_, ?_, ?_, ?_, ?_, R.fS, R.fS', R.fo⟩
    · intro h
      simp only [mem_get_cons, Lay.newHome]
      by_cases e : h = d
      · simp [e]
      · simp [e, R.lv h]
    · intro h H hH
      simp only [mem_get_cons] at hH
      by_cases e : h = d
      · subst e
        simp only [if_true, Option.some.injEq] at hH
        subst hH
        refine ⟨by simp [Lay.newHome], rfl, .inr (.inr ⟨.inl rfl, by simp [Lay.newHome], [], [], #[], 0, rfl, ?_, by simpa [Lay.newHome] using R.fn.size, ?_, .nil, .nil, rfl, fun j e h => by simp at h⟩)⟩
        · simpa [Lay.newHome] using heap_alloc_new X.w (.map #[] 0)
        · intro o ho
          simp only [Lay.newHome, if_true] at ho
          exact absurd (R.sb _ _ ho) (by omega)
      · simp only [e, if_false] at hH
        have hlv : X.live h := (R.lv h).2 (by simp [hH])
        refine (R.hm _ _ hH).mono le (by simp [Lay.newHome, e]) (by simp [Lay.newHome, e]) (by simp [Lay.newHome, e]) (by simp [e]) (fun ho => ?_) fun o _ h => h
        have := hblk h hlv ho
        exact heap_alloc_old X.w _ _ this
    · intro h h' hl1 hl2 ho1 ho2 e
      simp only [Lay.newHome] at hl1 hl2 e
      by_cases e1 : h = d <;> by_cases e2 : h' = d
      · rw [e1, e2]
      · simp only [e1, e2, if_true, if_false, false_or] at e hl2 ho2
        have := hblk h' hl2 ho2; omega
      · simp only [e1, e2, if_true, if_false, false_or] at e hl1 ho1
        have := hblk h hl1 ho1; omega
      · simp only [e1, e2, if_false, false_or] at e hl1 hl2 ho1 ho2
        exact R.ij h h' hl1 hl2 ho1 ho2 e
    · intro h hl1 ho
      simp only [Lay.newHome] at hl1 ⊢
      by_cases e : h = d
      · simp only [e, if_true]
        cases hom : st.om X.w.heap.size with
        | none => rfl
        | some cs =>
          obtain ⟨cur', ty', h1, _⟩ := (R.ob _ _ hom).cells
          have := (Array.getElem?_eq_some_iff.1 h1).1
          omega
      · simp only [e, if_false, false_or] at hl1 ho ⊢
        exact R.dj h hl1 ho
    · intro id cs hcs
      have ht := R.ob id cs hcs
      obtain ⟨cur', ty', h1, _⟩ := ht.cells
      exact ht.mono le (heap_alloc_old X.w _ _ (Array.getElem?_eq_some_iff.1 h1).1) ht.S
    · intro b o h
      have := R.sb b o h
      simp only [Lay.newHome, World.alloc, Array.size_push]; omega
    · exact R.fn.alloc _
    · intro b hb ho
      have := R.fn.size
      simp only [Lay.newHome]
      rw [heap_alloc_old X.w _ _ (by omega)]
      exact R.fb b hb ho
  exact R'.set (some d) (.mp d _ (by simp [Lay.newHome]) (by simp [Lay.newHome]) (by simp [Lay.newHome]))
def setMap (w : World) (b : Nat) (es : Array MapEntry) (ck : Nat) : World := { w with heap := w.heap.setIfInBounds b (.map es ck) }
theorem setMap_other (w : World) (b : Nat) (es : Array MapEntry) (ck : Nat) {c : Nat} (h : c ≠ b) : (setMap w b es ck).heap[c]? = w.heap[c]? := by
  simp [setMap, Ne.symm h]
theorem setMap_self (w : World) (b : Nat) (es : Array MapEntry) (ck : Nat) (h : b < w.heap.size) : (setMap w b es ck).heap[b]? = some (.map es ck) := by
  simp [setMap, h]
theorem mapIn_of {B : Base} {X : Lay} {own : Nat → Prop} {h : Nat} {ks vs : List V} (hm : Home B X own h ⟨0, true, [.mc ks vs], true⟩) (hc : X.cap h = 0) :
    own h ∧ ∃ es ck, X.w.heap[(X.j h).1]? = some (.map es ck) ∧ B.w.heap.size ≤ (X.j h).1 ∧ (∀ o, ¬ X.S (X.j h).1 o) ∧ RepL X (es.toList.map (·.key)) ks ∧ RepL X (es.toList.map (·.val)) vs ∧ Born es ck := by
  rcases hm.lay with ⟨_, _, q, _⟩ | ⟨_, q, _⟩ | ⟨ho, q1, ks', vs', es, ck, e, q⟩
  · rw [hc] at q; simp at q
  · rw [hc] at q; simp at q
  · injection e with _ _ e _
    injection e with e _
    injection e with e1 e2
    subst e1 e2
    exact ⟨ho, es, ck, q⟩
theorem Rel.writeMap {B : Base} {X : Lay} {own : Nat → Prop} {st : St} {a : Act} (R : Rel B X own st a) {h : Nat} {ks vs : List V} (hH : st.mem.get h = some ⟨0, true, [.mc ks vs], true⟩) (hc : X.cap h = 0)
    {ks' vs' : List V} (es' : Array MapEntry) (ck' : Nat) (r1 : RepL X (es'.toList.map (·.key)) ks') (r2 : RepL X (es'.toList.map (·.val)) vs') (r3 : Born es' ck') :
    Rel B { X with w := setMap X.w (X.j h).1 es' ck' } own ⟨st.env, st.mem.put h ⟨0, true, [.mc ks' vs'], true⟩, st.om⟩ a := by
  have hm := R.hm _ _ hH
  have hlive : X.live h := (R.lv h).2 (by simp [hH])
  obtain ⟨ho, es, ck, h1, h2, h3, h4, h5⟩ := mapIn_of hm hc
  have hb : (X.j h).1 < X.w.heap.size := (Array.getElem?_eq_some_iff.1 h1).1
  have hat : ∀ b o, b ≠ (X.j h).1 → ({ X with w := setMap X.w (X.j h).1 es' ck' } : Lay).at b o = X.at b o := fun b o hne => World.cell?_of_block (setMap_other X.w _ _ _ hne)
  have le : X.Le { X with w := setMap X.w (X.j h).1 es' ck' } := ⟨fun _ _ h => h, fun b o hs => hat b o fun e => h3 o (e ▸ hs), fun _ h => h, fun _ _ => .inl ⟨rfl, rfl, rfl⟩⟩
  have hobj : ∀ id cs, st.om id = some cs → id ≠ (X.j h).1 := fun id cs hcs e => by rw [e, R.dj h hlive ho] at hcs; cases hcs
  refine ⟨R.tm, fun k g g' => (R.rp k g g').mono le, R.df, ?_, ?_, R.ij, R.dj, ?_, ?_, ?_, ?_, R.fS, R.fS', R.fo⟩
  · intro g
    simp only [mem_get_put]
    by_cases e : g = h
    · subst e; simp [hlive]
    · simp [e, R.lv g]
  · intro g G hG
    simp only [mem_get_put] at hG
    by_cases e : g = h
    · subst e
      simp only [if_true, Option.some.injEq] at hG
      subst hG
      exact ⟨hm.L, rfl, .inr (.inr ⟨ho, hc, ks', vs', es', ck', rfl, setMap_self X.w _ _ _ hb, h2, h3, r1.mono le, r2.mono le, r3⟩)⟩
    · simp only [e, if_false] at hG
      have hl : X.live g := (R.lv g).2 (by simp [hG])
      refine (R.hm _ _ hG).mono le rfl rfl rfl Iff.rfl (fun ho' => ?_) fun o _ hs => hs
      exact setMap_other X.w _ _ _ fun e' => e (R.ij g h hl hlive ho' ho e')
  · intro id cs hcs
    have ht := R.ob id cs hcs
    exact ht.mono le (setMap_other X.w _ _ _ (hobj id cs hcs)) ht.S
  · intro b o hs
    have := R.sb b o hs
    simpa [setMap] using this
  · exact ⟨by simpa [setMap] using R.fn.size, R.fn.os, R.fn.tape, R.fn.output⟩
  · intro b hb' hn
    have : b ≠ (X.j h).1 := by omega
    rw [setMap_other X.w _ _ _ this]
    exact R.fb b hb' hn
theorem keyOk_is {X : Lay} {tk : TK} {d : TypeDesc} {v : Value} {k : V} (hf : tk.fits P d) (hk : keyOk tk k = true) (hr : Rep X v k) : MapKept.IsKey d v := by
  unfold keyOk at hk
  split at hk <;> first | cases hk | skip
  all_goals (simp only [TK.fits] at hf; subst hf; cases hr)
  · trivial
  · rw [beq_iff_eq] at hk
    exact hk.symm
  · rw [beq_iff_eq] at hk
    exact hk.symm
theorem key_eq {X : Lay} {tk : TK} {u v : Value} {c k : V} (hc : keyOk tk c = true) (hk : keyOk tk k = true) (h1 : Rep X u c) (h2 : Rep X v k) : u = v ↔ c = k := by
  cases tk <;> first | (cases c <;> exact absurd hc Bool.false_ne_true) | skip
  · rename_i j
    cases c <;> first | exact absurd hc Bool.false_ne_true | skip
    all_goals (cases k <;> first | exact absurd hk Bool.false_ne_true | skip)
    all_goals (simp only [keyOk, beq_iff_eq] at hc hk; subst hc; cases h1; cases h2)
    · subst hk
      simp only [Value.int.injEq, V.n.injEq, true_and]
      omega
    · subst hk; simp_all [IntKind.signed]
    · rename_i hs _; rw [← hk] at hs; simp [IntKind.signed] at hs
    · simp
  · cases c <;> first | exact absurd hc Bool.false_ne_true | skip
    cases k <;> first | exact absurd hk Bool.false_ne_true | skip
    cases h1; cases h2; simp
theorem find_cons {d : TypeDesc} {v : Value} {e : MapEntry} {es : List MapEntry} {i : Nat} (h1 : MapKept.IsKey d v) (h2 : MapKept.IsKey d e.key) :
    (e.key = v → Instr.findNow d v (e :: es) i = some (some (i, e.val))) ∧ (e.key ≠ v → Instr.findNow d v (e :: es) i = Instr.findNow d v es (i + 1)) := by
  obtain ⟨r, hr, hi⟩ := MapKept.sameNow_of_keys h1 h2
  cases r with
  | true => exact ⟨fun _ => by simp [Instr.findNow, hr], fun h => absurd (hi.1 rfl).symm h⟩
  | false => exact ⟨fun h => (by have := hi.2 h.symm; cases this), fun _ => by simp [Instr.findNow, hr]⟩
def Found (X : Lay) : Option (Nat × Value) → Option V → Prop
  | none, none => True
  | some (_, u), some x => Rep X u x
  | _, _ => False
theorem get_sound {X : Lay} {tk : TK} {d : TypeDesc} (hf : tk.fits P d) {v : Value} {k : V} (hk : keyOk tk k = true) (hv : Rep X v k) {K : Option V → Prop} :
    ∀ (es : List MapEntry) (ks vs : List V) (i : Nat), RepL X (es.map (·.key)) ks → RepL X (es.map (·.val)) vs → ks.all (keyOk tk) = true → @atKey k ks vs ⟨K⟩ → ∃ a r, Instr.findNow d v es i = some a ∧ Found X a r ∧ K r
  | [], _, _, i, .nil, .nil, _, h => ⟨none, none, rfl, trivial, h⟩
  | e :: es, c :: ks, w :: vs, i, .cons k1 k2, .cons v1 v2, ha, h => by
    simp only [List.all_cons, Bool.and_eq_true] at ha
    obtain ⟨f1, f2⟩ := find_cons (es := es) (i := i) (keyOk_is hf hk hv) (keyOk_is hf ha.1 k1)
    have ke := key_eq ha.1 hk k1 hv
    by_cases hc : c = k
    · exact ⟨_, some w, f1 (ke.2 hc), v1, h.1 hc⟩
    · obtain ⟨a, r, g1, g2, g3⟩ := get_sound hf hk hv es ks vs (i + 1) k2 v2 ha.2 (h.2 hc)
      exact ⟨a, r, by rw [f2 (fun q => hc (ke.1 q))]; exact g1, g2, g3⟩
def Put (es : List MapEntry) (v : Value) (i : Nat) (ks vs ks' vs' : List V) (k x : V) : Option (Nat × Value) → Prop
  | none => ks' = ks ++ [k] ∧ vs' = vs ++ [x]
  | some (n, _) => ∃ j e, n = i + j ∧ es[j]? = some e ∧ e.key = v ∧ ks' = ks ∧ vs' = vs.set j x
theorem set_sound {X : Lay} {tk : TK} {d : TypeDesc} (hf : tk.fits P d) {v : Value} {k x : V} (hk : keyOk tk k = true) (hv : Rep X v k) :
    ∀ (es : List MapEntry) (ks vs : List V) (i : Nat) (K : List V → List V → Prop), RepL X (es.map (·.key)) ks → RepL X (es.map (·.val)) vs → ks.all (keyOk tk) = true → @setKey k x ks vs ⟨K⟩ →
      ∃ a ks' vs', Instr.findNow d v es i = some a ∧ Put es v i ks vs ks' vs' k x a ∧ K ks' vs'
  | [], _, _, i, K, .nil, .nil, _, h => ⟨none, _, _, rfl, ⟨rfl, rfl⟩, h⟩
  | e :: es, c :: ks, w :: vs, i, K, .cons k1 k2, .cons v1 v2, ha, h => by
    simp only [List.all_cons, Bool.and_eq_true] at ha
    obtain ⟨f1, f2⟩ := find_cons (es := es) (i := i) (keyOk_is hf hk hv) (keyOk_is hf ha.1 k1)
    have ke := key_eq ha.1 hk k1 hv
    by_cases hc : c = k
    · exact ⟨_, _, _, f1 (ke.2 hc), ⟨0, e, rfl, rfl, ke.2 hc, rfl, rfl⟩, h.1 hc⟩
    · obtain ⟨a, ks', vs', g1, g2, g3⟩ := set_sound hf hk hv es ks vs (i + 1) _ k2 v2 ha.2 (h.2 hc)
      refine ⟨a, _, _, by rw [f2 (fun q => hc (ke.1 q))]; exact g1, ?_, g3⟩
      cases a with
      | none => exact ⟨by rw [g2.1]; rfl, by rw [g2.2]; rfl⟩
      | some p =>
        obtain ⟨n, u⟩ := p
        obtain ⟨j, e', h1, h2, h3, h4, h5⟩ := g2
        exact ⟨j + 1, e', by omega, h2, h3, by rw [h4], by rw [h5]; rfl⟩
def FoundI (X : Lay) (es : List MapEntry) (v : Value) (i : Nat) : Option (Nat × Value) → Option (Nat × V) → Prop
  | none, none => True
  | some (n, u), some (j, x) => n = j ∧ Rep X u x ∧ ∃ q e, n = i + q ∧ es[q]? = some e ∧ e.key = v
  | _, _ => False
theorem FoundI.up {X : Lay} {es : List MapEntry} {e : MapEntry} {v : Value} {i : Nat} {a : Option (Nat × Value)} {r : Option (Nat × V)} (h : FoundI X es v (i + 1) a r) : FoundI X (e :: es) v i a r := by
  cases a with
  | none => cases r with
    | none => trivial
    | some _ => exact h.elim
  | some p => cases r with
    | none => exact h.elim
    | some _ =>
      obtain ⟨h1, h2, q, e', h3, h4, h5⟩ := h
      exact ⟨h1, h2, q + 1, e', by omega, h4, h5⟩
theorem ix_sound {X : Lay} {tk : TK} {d : TypeDesc} (hf : tk.fits P d) {v : Value} {k : V} (hk : keyOk tk k = true) (hv : Rep X v k) {K : Option (Nat × V) → Prop} :
    ∀ (es : List MapEntry) (ks vs : List V) (i : Nat), RepL X (es.map (·.key)) ks → RepL X (es.map (·.val)) vs → ks.all (keyOk tk) = true → @ixKey k ks vs i ⟨K⟩ → ∃ a r, Instr.findNow d v es i = some a ∧ FoundI X es v i a r ∧ K r
  | [], _, _, i, .nil, .nil, _, h => ⟨none, none, rfl, trivial, h⟩
  | e :: es, c :: ks, w :: vs, i, .cons k1 k2, .cons v1 v2, ha, h => by
    simp only [List.all_cons, Bool.and_eq_true] at ha
    obtain ⟨f1, f2⟩ := find_cons (es := es) (i := i) (keyOk_is hf hk hv) (keyOk_is hf ha.1 k1)
    have ke := key_eq ha.1 hk k1 hv
    by_cases hc : c = k
    · exact ⟨_, some (i, w), f1 (ke.2 hc), ⟨rfl, v1, 0, e, rfl, rfl, ke.2 hc⟩, h.1 hc⟩
    · obtain ⟨a, r, g1, g2, g3⟩ := ix_sound hf hk hv es ks vs (i + 1) k2 v2 ha.2 (h.2 hc)
      exact ⟨a, r, by rw [f2 (fun q => hc (ke.1 q))]; exact g1, g2.up, g3⟩
structure KeyLike (P : Program) (X : Lay) (kt : TypeId) (ok : V → Bool) : Prop where
  chk : ∀ v k em, ok k = true → Rep X v k → (Instr.checkKey em 10000 kt v).run P X.w = .ok () X.w
  get : ∀ v k (K : Option V → Prop) (es : List MapEntry) (ks vs : List V), ok k = true → Rep X v k → RepL X (es.map (·.key)) ks → RepL X (es.map (·.val)) vs → ks.all ok = true → @atKey k ks vs ⟨K⟩ →
    ∃ a r, (Instr.findKey kt v es).run P X.w = .ok a X.w ∧ Found X a r ∧ K r
  set : ∀ v k x (K : List V → List V → Prop) (es : List MapEntry) (ks vs : List V), ok k = true → Rep X v k → RepL X (es.map (·.key)) ks → RepL X (es.map (·.val)) vs → ks.all ok = true → @setKey k x ks vs ⟨K⟩ →
    ∃ a ks' vs', (Instr.findKey kt v es).run P X.w = .ok a X.w ∧ Put es v 0 ks vs ks' vs' k x a ∧ K ks' vs'
  ix : ∀ v k (K : Option (Nat × V) → Prop) (es : List MapEntry) (ks vs : List V), ok k = true → Rep X v k → RepL X (es.map (·.key)) ks → RepL X (es.map (·.val)) vs → ks.all ok = true → @ixKey k ks vs 0 ⟨K⟩ →
    ∃ a r, (Instr.findKey kt v es).run P X.w = .ok a X.w ∧ FoundI X es v 0 a r ∧ K r
  stays : ∀ v k, ok k = true → Rep X v k → (Instr.keyThatStays v v).run P X.w = .ok v X.w
theorem keys_plain {X : Lay} {kt : TypeId} {tk : TK} {d : TypeDesc} (huk : P.underlying kt = some d) (hf : tk.fits P d) : KeyLike P X kt (keyOk tk) where
  chk := fun v k em hk hv => MapKept.run_checkKey (P := P) (w := X.w) huk (keyOk_is hf hk hv) em 9999
  get := fun v k K es ks vs hk hv h4 h5 q2 h => by
    obtain ⟨a, r, f1, f2, f3⟩ := get_sound hf hk hv es ks vs 0 h4 h5 q2 h
    exact ⟨a, r, MapKept.run_findKey (P := P) (w := X.w) huk f1, f2, f3⟩
  set := fun v k x K es ks vs hk hv h4 h5 q2 h => by
    obtain ⟨a, ks', vs', f1, f2, f3⟩ := set_sound hf hk hv es ks vs 0 _ h4 h5 q2 h
    exact ⟨a, ks', vs', MapKept.run_findKey (P := P) (w := X.w) huk f1, f2, f3⟩
  ix := fun v k K es ks vs hk hv h4 h5 q2 h => by
    obtain ⟨a, r, f1, f2, f3⟩ := ix_sound hf hk hv es ks vs 0 h4 h5 q2 h
    exact ⟨a, r, MapKept.run_findKey (P := P) (w := X.w) huk f1, f2, f3⟩
  stays := fun v k hk hv => MapKept.run_keyThatStays (keyOk_is hf hk hv)
theorem ask_cons {kt : TypeId} {w : World} {v : Value} {e : MapEntry} {es : List MapEntry} {i : Nat} {r : Bool} (h : (Op.equal kt v e.key).run P w = .ok r w) :
    (Instr.findAsking kt v (e :: es) i).run P w = if r = true then .ok (some (i, e.val)) w else (Instr.findAsking kt v es (i + 1)).run P w := by
  cases r <;> simp [Instr.findAsking, h, Result.andThen]
theorem keyE_inv {e : Option (List CK)} {k : V} (h : keyE e k = true) : ∃ ks xs, e = some ks ∧ k = .agg xs ∧ fitK ks xs = true := by
  unfold keyE at h
  split at h
  · split at h
    · exact ⟨_, _, rfl, rfl, h⟩
    · cases h
  · cases h
theorem ask_get {X : Lay} {kt : TypeId} {ks : List CK} (E : PlainEq P kt ks) {v : Value} {xs : List V} (hk : fitK ks xs = true) (hv : Rep X v (.agg xs)) {K : Option V → Prop} :
    ∀ (es : List MapEntry) (js vs : List V) (i : Nat), RepL X (es.map (·.key)) js → RepL X (es.map (·.val)) vs → js.all (keyE (some ks)) = true → @atKey (.agg xs) js vs ⟨K⟩ → ∃ a r, (Instr.findAsking kt v es i).run P X.w = .ok a X.w ∧ Found X a r ∧ K r
  | [], _, _, i, .nil, .nil, _, h => ⟨none, none, by simp [Instr.findAsking], trivial, h⟩
  | e :: es, c :: js, w :: vs, i, .cons k1 k2, .cons v1 v2, ha, h => by
    simp only [List.all_cons, Bool.and_eq_true] at ha
    obtain ⟨_, ys, e1, rfl, fy⟩ := keyE_inv ha.1
    injection e1 with e1; subst e1
    obtain ⟨_, _, r, _, _, hr, hi⟩ := eq_sound E hv k1 hk fy
    have ac := ask_cons (es := es) (i := i) hr
    by_cases hc : V.agg ys = .agg xs
    · rw [if_pos (hi.2 (by injection hc with hc; exact hc.symm))] at ac
      exact ⟨_, some w, ac, v1, h.1 hc⟩
    · rw [if_neg (fun q => hc (by rw [hi.1 q]))] at ac
      obtain ⟨a, r', g1, g2, g3⟩ := ask_get E hk hv es js vs (i + 1) k2 v2 ha.2 (h.2 hc)
      exact ⟨a, r', ac.trans g1, g2, g3⟩
theorem ask_set {X : Lay} {kt : TypeId} {ks : List CK} (E : PlainEq P kt ks) {v : Value} {xs : List V} {x : V} (hk : fitK ks xs = true) (hv : Rep X v (.agg xs)) :
    ∀ (es : List MapEntry) (js vs : List V) (i : Nat) (K : List V → List V → Prop), RepL X (es.map (·.key)) js → RepL X (es.map (·.val)) vs → js.all (keyE (some ks)) = true → @setKey (.agg xs) x js vs ⟨K⟩ →
      ∃ a js' vs', (Instr.findAsking kt v es i).run P X.w = .ok a X.w ∧ Put es v i js vs js' vs' (.agg xs) x a ∧ K js' vs'
  | [], _, _, i, K, .nil, .nil, _, h => ⟨none, _, _, by simp [Instr.findAsking], ⟨rfl, rfl⟩, h⟩
  | e :: es, c :: js, w :: vs, i, K, .cons k1 k2, .cons v1 v2, ha, h => by
    simp only [List.all_cons, Bool.and_eq_true] at ha
    obtain ⟨_, ys, e1, rfl, fy⟩ := keyE_inv ha.1
    injection e1 with e1; subst e1
    obtain ⟨_, _, r, _, _, hr, hi⟩ := eq_sound E hv k1 hk fy
    have ac := ask_cons (es := es) (i := i) hr
    by_cases hc : V.agg ys = .agg xs
    · have hc' : ys = xs := by injection hc
      rw [if_pos (hi.2 hc'.symm)] at ac
      exact ⟨_, _, _, ac, ⟨0, e, rfl, rfl, row_eq k1 hv fy hk hc', rfl, rfl⟩, h.1 hc⟩
    · rw [if_neg (fun q => hc (by rw [hi.1 q]))] at ac
      obtain ⟨a, js', vs', g1, g2, g3⟩ := ask_set E hk hv es js vs (i + 1) _ k2 v2 ha.2 (h.2 hc)
      refine ⟨a, _, _, ac.trans g1, ?_, g3⟩
      cases a with
      | none => exact ⟨by rw [g2.1]; rfl, by rw [g2.2]; rfl⟩
      | some p =>
        obtain ⟨n, u⟩ := p
        obtain ⟨j, e', h1, h2, h3, h4, h5⟩ := g2
        exact ⟨j + 1, e', by omega, h2, h3, by rw [h4], by rw [h5]; rfl⟩
theorem ask_ix {X : Lay} {kt : TypeId} {ks : List CK} (E : PlainEq P kt ks) {v : Value} {xs : List V} (hk : fitK ks xs = true) (hv : Rep X v (.agg xs)) {K : Option (Nat × V) → Prop} :
    ∀ (es : List MapEntry) (js vs : List V) (i : Nat), RepL X (es.map (·.key)) js → RepL X (es.map (·.val)) vs → js.all (keyE (some ks)) = true → @ixKey (.agg xs) js vs i ⟨K⟩ → ∃ a r, (Instr.findAsking kt v es i).run P X.w = .ok a X.w ∧ FoundI X es v i a r ∧ K r
  | [], _, _, i, .nil, .nil, _, h => ⟨none, none, by simp [Instr.findAsking], trivial, h⟩
  | e :: es, c :: js, w :: vs, i, .cons k1 k2, .cons v1 v2, ha, h => by
    simp only [List.all_cons, Bool.and_eq_true] at ha
    obtain ⟨_, ys, e1, rfl, fy⟩ := keyE_inv ha.1
    injection e1 with e1; subst e1
    obtain ⟨_, _, r, _, _, hr, hi⟩ := eq_sound E hv k1 hk fy
    have ac := ask_cons (es := es) (i := i) hr
    by_cases hc : V.agg ys = .agg xs
    · have hc' : ys = xs := by injection hc
      rw [if_pos (hi.2 hc'.symm)] at ac
      exact ⟨_, some (i, w), ac, ⟨rfl, v1, 0, e, rfl, rfl, row_eq k1 hv fy hk hc'⟩, h.1 hc⟩
    · rw [if_neg (fun q => hc (by rw [hi.1 q]))] at ac
      obtain ⟨a, r', g1, g2, g3⟩ := ask_ix E hk hv es js vs (i + 1) k2 v2 ha.2 (h.2 hc)
      exact ⟨a, r', ac.trans g1, g2.up, g3⟩
theorem keys_row {X : Lay} {kt : TypeId} {e : Option (List CK)} (hE : ∀ ks, e = some ks → PlainEq P kt ks) : KeyLike P X kt (keyE e) where
  chk := fun v k em hk hv => by
    obtain ⟨ks, xs, rfl, rfl, f⟩ := keyE_inv hk
    exact (key_row (hE ks rfl) hv f).1 em
  get := fun v k K es js vs hk hv h4 h5 q2 h => by
    obtain ⟨ks, xs, rfl, rfl, f⟩ := keyE_inv hk
    obtain ⟨a, r, f1, f2, f3⟩ := ask_get (hE ks rfl) f hv es js vs 0 h4 h5 q2 h
    exact ⟨a, r, (run_findKey_eq X.w (hE ks rfl).wide v es).trans f1, f2, f3⟩
  set := fun v k x K es js vs hk hv h4 h5 q2 h => by
    obtain ⟨ks, xs, rfl, rfl, f⟩ := keyE_inv hk
    obtain ⟨a, ks', vs', f1, f2, f3⟩ := ask_set (hE ks rfl) f hv es js vs 0 _ h4 h5 q2 h
    exact ⟨a, ks', vs', (run_findKey_eq X.w (hE ks rfl).wide v es).trans f1, f2, f3⟩
  ix := fun v k K es js vs hk hv h4 h5 q2 h => by
    obtain ⟨ks, xs, rfl, rfl, f⟩ := keyE_inv hk
    obtain ⟨a, r, f1, f2, f3⟩ := ask_ix (hE ks rfl) f hv es js vs 0 h4 h5 q2 h
    exact ⟨a, r, (run_findKey_eq X.w (hE ks rfl).wide v es).trans f1, f2, f3⟩
  stays := fun v k hk hv => by
    obtain ⟨ks, xs, rfl, rfl, f⟩ := keyE_inv hk
    exact (key_row (hE ks rfl) hv f).2
theorem keys_at {X : Lay} {kt : TypeId} {e : Option (List CK)} {tk : TK} {d : TypeDesc} (huk : P.underlying kt = some d) (hf : tk.fits P d) (hE : ∀ ks, e = some ks → PlainEq P kt ks) : KeyLike P X kt (keyAt e tk) := by
  cases tk <;> first | exact keys_row hE | exact keys_plain huk hf
theorem RepL.set {X : Lay} {us : List Value} {xs : List V} (h : RepL X us xs) {v : Value} {x : V} (hv : Rep X v x) : ∀ j, RepL X (us.set j v) (xs.set j x) := by
  induction h with
  | nil => intro j; exact .nil
  | cons h1 h2 ih =>
    intro j
    cases j with
    | zero => exact .cons hv h2
    | succ j => exact .cons h1 (ih j)
theorem modify_map {α β : Type} (g : α → β) (f : α → α) : ∀ (l : List α) (j : Nat) (e : α), l[j]? = some e → (l.modify j f).map g = (l.map g).set j (g (f e))
  | [], j, e, h => by simp at h
  | x :: l, 0, e, h => by simp at h; subst h; simp
  | x :: l, j + 1, e, h => by simp at h; simp [modify_map g f l j e h]
theorem mapAt_inv {st : St} {x : V} {K : Nat → List V × List V → Prop} (h : @mapAt st x ⟨K⟩) : ∃ m ks vs, x = .mp m ∧ st.mem.get m = some ⟨0, true, [.mc ks vs], true⟩ ∧ K m (ks, vs) := by
  unfold mapAt at h
  split at h <;> first | exact h.elim | skip
  obtain ⟨H, hH, h⟩ := so_inv h
  split at h <;> first | exact h.elim | skip
  exact ⟨_, _, _, rfl, hH, h⟩
theorem Rep.mp_inv {B : Base} {X : Lay} {own : Nat → Prop} {st : St} {a : Act} (R : Rel B X own st a) {v : Value} {m : Nat} {ks vs : List V} (hx : Rep X v (.mp m)) (hm : st.mem.get m = some ⟨0, true, [.mc ks vs], true⟩) :
    v = .map (some (X.j m).1) ∧ X.cap m = 0 := by
  have hL := (R.hm _ _ hm).L
  cases hx with
  | mp _ b hl h1 hv =>
    obtain ⟨rfl, hc⟩ := hv hL
    exact ⟨rfl, hc⟩
theorem mapGet_sound {cx : Cx} (C : COk P cx) {B : Base} {X : Lay} {own : Nat → Prop} {st : St} {a : Act} (R : Rel B X own st a) {t : TypeId} {x k : V} {ok : Bool} {K : V → Prop} {v w : Value}
    (h : @mapGet cx t st x k ok ⟨K⟩) (hx : Rep X v x) (hk : Rep X w k) : ∃ r u, K r ∧ Rep X u r ∧ (Instr.lookup t v w ok).run P X.w = .ok u X.w := by
  unfold mapGet at h
  replace h := ti_inv h; obtain ⟨i, hi, h⟩ := h
  split at h <;> first | exact h.elim | skip
  rename_i kt e hik
  obtain ⟨d0, hu, hfit⟩ := (C.T _ _ hi).ex |> fun ⟨_, _, d, _, _, _, _, h5, h6, _⟩ => (⟨d, h5, h6⟩ : ∃ d, P.underlying t = some d ∧ i.k.fits P d)
  rw [hik] at hfit
  simp only [TK.fits] at hfit
  subst hfit
  replace h := ti_inv h; obtain ⟨ki, hki, h⟩ := h
  obtain ⟨dk, huk, hfk⟩ := (C.T _ _ hki).ex |> fun ⟨_, _, d, _, _, _, _, h5, h6, _⟩ => (⟨d, h5, h6⟩ : ∃ d, P.underlying kt = some d ∧ ki.k.fits P d)
  replace h := ti_inv h; obtain ⟨ei, hei, h⟩ := h
  obtain ⟨inf, z, _, g1, g2, g3, g4, _, _, g7, _⟩ := (C.T _ _ hei).ex
  obtain ⟨m, ks, vs, rfl, hm, ⟨q1, q2, q3⟩, h⟩ := mapAt_inv h
  obtain ⟨rfl, hc⟩ := Rep.mp_inv R hx hm
  obtain ⟨ho, es, ck, h1, h2, h3, h4, h5, hbn⟩ := mapIn_of (R.hm _ _ hm) hc
  have KL := keys_at (X := X) huk hfk (C.E kt)
  obtain ⟨fa, r, hfd, f2, f3⟩ := KL.get _ _ _ es.toList ks vs q1 hk h4 h5 q2 h
  have hck := KL.chk _ _ es.isEmpty q1 hk
  have hge := MapKept.run_getObj_map (P := P) h1
  have hz := run_zeroValue' (P := P) (w := X.w) g1 g4
  cases r with
  | none =>
    cases fa with
    | some p => exact f2.elim
    | none =>
      cases ok with
      | true => exact ⟨_, .tuple #[z, .bool false], f3, .tup _ _ rfl (fun k hk hk' => by
          match k, hk with
          | 0, _ => exact g7 X
          | 1, _ => exact .b false), by simp [Instr.lookup, run_underlying hu, hge, hck, hfd, hz, Result.andThen]⟩
      | false => exact ⟨_, z, f3, g7 X, by simp [Instr.lookup, run_underlying hu, hge, hck, hfd, hz, Result.andThen]⟩
  | some x =>
    cases fa with
    | none => exact f2.elim
    | some p =>
      obtain ⟨j, u⟩ := p
      cases ok with
      | true => exact ⟨_, .tuple #[u, .bool true], f3, .tup _ _ rfl (fun k hk hk' => by
          match k, hk with
          | 0, _ => exact f2
          | 1, _ => exact .b true), by simp [Instr.lookup, run_underlying hu, hge, hck, hfd, Result.andThen]⟩
      | false => exact ⟨_, u, f3, f2, by simp [Instr.lookup, run_underlying hu, hge, hck, hfd, Result.andThen]⟩
theorem Born.push {es : Array MapEntry} {ck : Nat} (h : Born es ck) (k v : Value) : Born (es.push { key := k, val := v, born := ck }) (ck + 1) := by
  refine ⟨by simp [h.1], fun j e he => ?_⟩
  rw [Array.getElem?_push] at he
  split at he
  · rename_i hj; injection he with he; subst he; show ck = j; rw [hj]; exact h.1
  · exact h.2 j e he
theorem Born.modify {es : Array MapEntry} {ck : Nat} (h : Born es ck) (n : Nat) (f : MapEntry → MapEntry) (hf : ∀ e, (f e).born = e.born) : Born (es.modify n f) ck := by
  refine ⟨by simp [h.1], fun j e he => ?_⟩
  rw [Array.getElem?_modify] at he
  split at he
  · cases hj : es[j]? with
    | none => rw [hj] at he; cases he
    | some e' => rw [hj] at he; injection he with he; subst he; rw [hf]; exact h.2 j e' hj
  · exact h.2 j e he
theorem keys_same {es : Array MapEntry} {n : Nat} {en : MapEntry} {w : Value} (e2 : es.toList[n]? = some en) (e3 : en.key = w) : (es.toList.map (·.key)).set n w = es.toList.map (·.key) := by
  refine List.ext_getElem? fun q => ?_
  rw [List.getElem?_set]
  split
  · rename_i e; subst e
    simp only [List.getElem?_map, e2, Option.map_some, e3]
    split
    · rfl
    · rename_i hlt; have := (List.getElem?_eq_some_iff.1 e2).1; simp at hlt; simp at this; omega
  · rfl
theorem set_at_same {α : Type} {l : List α} {n : Nat} {x : α} (h : l[n]? = some x) : l.set n x = l := by
  refine List.ext_getElem? fun q => ?_
  rw [List.getElem?_set]
  split
  · rename_i e; subst e
    rw [h]; split
    · rfl
    · rename_i hlt; exact absurd (List.getElem?_eq_some_iff.1 h).1 hlt
  · rfl
theorem mapSet_sound {cx : Cx} (C : COk P cx) {B : Base} {X : Lay} {own : Nat → Prop} {st : St} {a : Act} (R : Rel B X own st a) {t : TypeId} {dst : Option Tmp} {x k y : V} {K : St → Prop} {v w u : Value}
    (h : @mapSet cx t st dst x k y ⟨K⟩) (hx : Rep X v x) (hk : Rep X w k) (hy : Rep X u y) : ∃ st' X', K (st'.set dst .u) ∧ Rel B X' own st' a ∧ (Instr.mapUpdate t v w u).run P X.w = .ok () X'.w := by
  unfold mapSet at h
  replace h := ti_inv h; obtain ⟨i, hi, h⟩ := h
  split at h <;> first | exact h.elim | skip
  rename_i kt e hik
  obtain ⟨d0, hu, hfit⟩ := (C.T _ _ hi).ex |> fun ⟨_, _, d, _, _, _, _, h5, h6, _⟩ => (⟨d, h5, h6⟩ : ∃ d, P.underlying t = some d ∧ i.k.fits P d)
  rw [hik] at hfit
  simp only [TK.fits] at hfit
  subst hfit
  replace h := ti_inv h; obtain ⟨ki, hki, h⟩ := h
  obtain ⟨dk, huk, hfk⟩ := (C.T _ _ hki).ex |> fun ⟨_, _, d, _, _, _, _, h5, h6, _⟩ => (⟨d, h5, h6⟩ : ∃ d, P.underlying kt = some d ∧ ki.k.fits P d)
  obtain ⟨m, ks, vs, rfl, hm, ⟨q1, q2, q3⟩, h⟩ := mapAt_inv h
  obtain ⟨rfl, hc⟩ := Rep.mp_inv R hx hm
  obtain ⟨ho, es, ck, h1, h2, h3, h4, h5, hbn⟩ := mapIn_of (R.hm _ _ hm) hc
  have KL := keys_at (X := X) huk hfk (C.E kt)
  obtain ⟨fa, ks', vs', hfd, f2, f3⟩ := KL.set _ _ _ _ es.toList ks vs q1 hk h4 h5 q2 h
  have hck := KL.chk _ _ false q1 hk
  have hst := KL.stays _ _ q1 hk
  have hge := MapKept.run_getObj_map (P := P) h1
  have hse := fun o => MapKept.run_setObj_map (P := P) o h1
  cases fa with
  | none =>
    obtain ⟨rfl, rfl⟩ := f2
    refine ⟨_, _, f3, R.writeMap hm hc (es.push { key := w, val := u, born := ck }) (ck + 1) ?_ ?_ (hbn.push _ _), ?_⟩
    · simpa using h4.append (.cons hk .nil)
    · simpa using h5.append (.cons hy .nil)
    · simp [Instr.mapUpdate, run_underlying hu, hge, hck, hfd, hse, Result.andThen, setMap]
  | some p =>
    obtain ⟨n, u'⟩ := p
    obtain ⟨j, en, e1, e2, e3, rfl, rfl⟩ := f2
    rw [Nat.zero_add] at e1
    subst e1
    have hj : es[n]? = some en := by simpa using e2
    refine ⟨_, _, f3, R.writeMap hm hc (es.modify n fun e => { e with key := w, val := u }) ck ?_ ?_ (hbn.modify _ _ fun _ => rfl), ?_⟩
    · rw [Array.toList_modify, modify_map _ _ _ _ _ e2]
      have : (es.toList.map (·.key)).set n w = es.toList.map (·.key) := by
        refine List.ext_getElem? fun q => ?_
        rw [List.getElem?_set]
        split
        · rename_i e; subst e
          simp only [List.getElem?_map, e2, Option.map_some, e3]
          split
          · rfl
          · rename_i hlt; have := (List.getElem?_eq_some_iff.1 e2).1; simp at hlt; simp at this; omega
        · rfl
      simp only [this]; exact h4
    · rw [Array.toList_modify, modify_map _ _ _ _ _ e2]
      exact h5.set hy n
    · simp [Instr.mapUpdate, run_underlying hu, hge, hck, hfd, hse, hj, e3, hst, Result.andThen, setMap]
theorem mapEnt_sound {cx : Cx} (C : COk P cx) {B : Base} {X : Lay} {own : Nat → Prop} {st : St} {a : Act} (R : Rel B X own st a) {t : TypeId} {dst : Option Tmp} {x k : V} {K : St → Prop} {v w : Value}
    (h : @mapEnt cx t st dst x k ⟨K⟩) (hx : Rep X v x) (hk : Rep X w k) : ∃ st' X' u r, K (st'.set dst r) ∧ Rel B X' own st' a ∧ Rep X' u r ∧ (Instr.mapEntry t v w).run P X.w = .ok u X'.w := by
  unfold mapEnt at h
  replace h := ti_inv h; obtain ⟨i, hi, h⟩ := h
  split at h <;> first | exact h.elim | skip
  rename_i kt e hik
  obtain ⟨d0, hu, hfit⟩ := (C.T _ _ hi).ex |> fun ⟨_, _, d, _, _, _, _, h5, h6, _⟩ => (⟨d, h5, h6⟩ : ∃ d, P.underlying t = some d ∧ i.k.fits P d)
  rw [hik] at hfit
  simp only [TK.fits] at hfit
  subst hfit
  replace h := ti_inv h; obtain ⟨ki, hki, h⟩ := h
  obtain ⟨dk, huk, hfk⟩ := (C.T _ _ hki).ex |> fun ⟨_, _, d, _, _, _, _, h5, h6, _⟩ => (⟨d, h5, h6⟩ : ∃ d, P.underlying kt = some d ∧ ki.k.fits P d)
  replace h := ti_inv h; obtain ⟨ei, hei, h⟩ := h
  obtain ⟨inf, z, _, g1, g2, g3, g4, _, _, g7, _⟩ := (C.T _ _ hei).ex
  obtain ⟨m, ks, vs, rfl, hm, ⟨q1, q2, q3, q4⟩, h⟩ := mapAt_inv h
  obtain ⟨rfl, hc⟩ := Rep.mp_inv R hx hm
  obtain ⟨ho, es, ck, h1, h2, h3, h4, h5, hbn⟩ := mapIn_of (R.hm _ _ hm) hc
  have KL := keys_at (X := X) huk hfk (C.E kt)
  obtain ⟨fa, r, hfd, f2, f3⟩ := KL.ix _ _ _ es.toList ks vs q1 hk h4 h5 q2 h
  have hck := KL.chk _ _ false q1 hk
  have hst := KL.stays _ _ q1 hk
  have hge := MapKept.run_getObj_map (P := P) h1
  have hse := fun o => MapKept.run_setObj_map (P := P) o h1
  have hz := run_zeroValue' (P := P) (w := X.w) g1 g4
  have hlen : es.size = ks.length := by have := h4.len; simpa using this
  cases fa with
  | none =>
    cases r with
    | some _ => exact f2.elim
    | none =>
      have W := R.writeMap hm hc (ks' := ks ++ [k]) (vs' := vs ++ [ei.zero]) (es.push { key := w, val := z, born := ck }) (ck + 1) (by simpa using h4.append (.cons hk .nil)) (by simpa using h5.append (.cons (g7 X) .nil)) (hbn.push _ _)
      refine ⟨_, _, .tuple #[z, goInt ck], _, f3, W, ?_, ?_⟩
      · refine .tup _ _ rfl fun j hj hj' => ?_
        match j, hj with
        | 0, _ => exact g7 _
        | 1, _ =>
          show Rep _ (goInt ck) (.z ks.length)
          rw [show (goInt ck : Value) = .int .i64 (ks.length : Int) by rw [hbn.1, hlen]; rfl]
          exact .z _ (by unfold i64ok; simp only at q4; omega)
      · simp [Instr.mapEntry, run_underlying hu, hge, hck, hfd, hse, hz, Result.andThen, setMap]
  | some p =>
    obtain ⟨n, u'⟩ := p
    cases r with
    | none => exact f2.elim
    | some r =>
      obtain ⟨j, y⟩ := r
      obtain ⟨rfl, f4, q, en, e1, e2, e3⟩ := f2
      rw [Nat.zero_add] at e1
      subst e1
      have hj : es[n]? = some en := by simpa using e2
      have hjl : n < es.size := (Array.getElem?_eq_some_iff.1 hj).1
      have W := R.writeMap hm hc (ks' := ks) (vs' := vs) (es.modify n fun e => { e with key := w }) ck (by rw [Array.toList_modify, modify_map _ _ _ _ _ e2, keys_same e2 e3]; exact h4)
        (by rw [Array.toList_modify, modify_map _ _ _ _ _ e2, set_at_same (by simp [e2])]; exact h5) (hbn.modify _ _ fun _ => rfl)
      have le : X.Le { X with w := setMap X.w (X.j m).1 (es.modify n fun e => { e with key := w }) ck } := ⟨fun _ _ h => h, fun b o hs => World.cell?_of_block (setMap_other X.w _ _ _ fun e => h3 o (e ▸ hs)), fun _ h => h, fun _ _ => .inl ⟨rfl, rfl, rfl⟩⟩
      refine ⟨_, _, .tuple #[u', goInt n], _, f3, W, ?_, ?_⟩
      · refine .tup _ _ rfl fun j hj hj' => ?_
        match j, hj with
        | 0, _ => exact f4.mono le
        | 1, _ => exact .z _ (by unfold i64ok; simp only at q4; omega)
      · simp [Instr.mapEntry, run_underlying hu, hge, hck, hfd, hse, hj, e3, hst, hbn.2 n en hj, Result.andThen, setMap]
theorem entStore_sound {B : Base} {X : Lay} {own : Nat → Prop} {st : St} {a : Act} (R : Rel B X own st a) {t : TypeId} {dst : Option Tmp} {x s y : V} {K : St → Prop} {v w u : Value}
    (h : @entStore st dst x s y ⟨K⟩) (hx : Rep X v x) (hs : Rep X w s) (hy : Rep X u y) : ∃ st' X', K (st'.set dst .u) ∧ Rel B X' own st' a ∧ (Instr.entryStore t v w u).run P X.w = .ok () X'.w := by
  unfold entStore at h
  obtain ⟨m, ks, vs, rfl, hm, h⟩ := mapAt_inv h
  split at h <;> first | exact h.elim | skip
  rename_i b
  obtain ⟨⟨q1, q2, q3⟩, h⟩ := h
  obtain ⟨rfl, hc⟩ := Rep.mp_inv R hx hm
  obtain ⟨ho, es, ck, h1, h2, h3, h4, h5, hbn⟩ := mapIn_of (R.hm _ _ hm) hc
  obtain ⟨n, rfl⟩ := Int.eq_ofNat_of_zero_le q1
  have hge := MapKept.run_getObj_map (P := P) h1
  have hse := fun o => MapKept.run_setObj_map (P := P) o h1
  have hlen : es.size = vs.length := by have := h5.len; simpa using this
  have hn : n < es.size := by simp only at q2; omega
  cases hs with
  | z _ hi =>
    have hfi : es.findIdx? (fun e => (e.born : Int) == (n : Int)) = some n := by
      rw [Array.findIdx?_eq_some_iff_getElem]
      refine ⟨hn, ?_, fun j hj => ?_⟩
      · rw [hbn.2 n es[n] (Array.getElem?_eq_getElem hn)]; simp
      · rw [hbn.2 j es[j] (Array.getElem?_eq_getElem (by omega))]; simp; omega
    obtain ⟨en, e2⟩ : ∃ en, es.toList[n]? = some en := ⟨es.toList[n]'(by simpa using hn), List.getElem?_eq_getElem _⟩
    refine ⟨_, _, h, R.writeMap hm hc (es.modify n fun e => { e with val := u }) ck ?_ ?_ (hbn.modify _ _ fun _ => rfl), ?_⟩
    · rw [Array.toList_modify, modify_map _ _ _ _ _ e2, set_at_same (by simp [e2])]; exact h4
    · rw [Array.toList_modify, modify_map _ _ _ _ _ e2, Int.toNat_natCast]; exact h5.set hy n
    · simp [Instr.entryStore, hge, hse, asInt, asIntOf, hfi, Result.andThen, setMap]
end
end Go.Proofs.YteomkgcepiecjaaGreat.I
