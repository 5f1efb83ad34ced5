/- How a row of the type table is shown. -/
import Derived.Test.YtaojebdjkpdcdaaBody
namespace Go.Proofs.Ytaojebdjkpdcdaa.I
open Go

/-- Zeros, that no step of simp goes into. -/
def zs (n : Nat) : List Nat := List.replicate n 0
theorem zs_def (n : Nat) : zs n = List.replicate n 0 := rfl

def zOf : Value → V
  | .agg vs => .agg (vs.toList.map V.ofVal)
  | v => V.ofVal v

def goodZ : Value → Bool
  | .agg vs => vs.toList.all fun v => goodV v && v.oneCell'
  | v => goodV v && v.oneCell'

theorem rep_zOf (X : Lay) {v : Value} (h : goodZ v = true) : Rep X v (zOf v) := by
  cases v with
  | agg vs =>
    simp only [goodZ, List.all_eq_true, Bool.and_eq_true] at h
    refine .agg _ _ (by simp) (fun u hu => (h u (Array.mem_toList_iff.2 hu)).2) fun k k1 k2 => ?_
    simp only [List.getElem_map, Array.getElem_toList]
    exact rep_ofVal X (h _ (Array.mem_toList_iff.2 (Array.getElem_mem k2))).1
  | _ => exact rep_ofVal X (by simp only [goodZ, Bool.and_eq_true] at h; exact h.1)

def notIf : TypeDesc → Bool
  | .interface _ => false
  | _ => true

/-- Does a row of the table fit? -/
def okZ (inf : TypeInfo) (z : Value) (i : TI) : Bool :=
  goodZ z && z.cells.size == i.size && z.cells.toList.all (·.oneCell') && i.zero.clean && i.zero.fits i.size i.isAgg && (i.isAgg || i.size == 1) && inf.size == i.size && inf.bytes == i.bytes

theorem tok {P : Program} {t : TypeId} {inf : TypeInfo} {z : Value} {d : TypeDesc} {i : TI} (h : P.info? t = some inf) (hz : inf.zero = some z) (hu : P.underlying t = some d) (hf : i.k.fits P d) (e : i.zero = zOf z) (hc : i.cn = notIf d) (hk : okZ inf z i = true) : TOk P t i := by
  simp only [okZ, Bool.and_eq_true, beq_iff_eq] at hk
  obtain ⟨⟨⟨⟨⟨⟨⟨h1, h2⟩, h3⟩, h4⟩, h5⟩, h6⟩, h7⟩, h8⟩ := hk
  refine ⟨⟨inf, z, d, h, h7, h8, hz, hu, hf, fun X => by rw [e]; exact rep_zOf X h1, h2, fun v hv => List.all_eq_true.1 h3 v (Array.mem_toList_iff.2 hv)⟩, h4, h5, fun ha => ?_, fun hcn => ?_⟩
  · rw [ha] at h6; simpa using h6
  · rw [hc] at hcn
    unfold Program.concrete
    rw [hu]
    cases d <;> simp_all [notIf]

def fldOk (P : Program) : List Field → Prop
  | [] => True
  | f :: l => (∃ inf, P.info? f.type = some inf ∧ inf.size ≠ 0) ∧ fldOk P l

theorem fldOk.all {P : Program} {l : List Field} (h : fldOk P l) : ∀ f ∈ l, ∃ inf, P.info? f.type = some inf ∧ inf.size ≠ 0 := by
  induction l with
  | nil => intro f hf; cases hf
  | cons g l ih =>
    intro f hf
    rcases List.mem_cons.1 hf with rfl | hf
    · exact h.1
    · exact ih h.2 f hf

theorem fitS {P : Program} {F : Array Field} {fs : List (Nat × TypeId)} (e : fs = F.toList.map (fun f => (f.offset, f.type))) (h : fldOk P F.toList) : (TK.struct fs).fits P (.struct F) :=
  ⟨F, rfl, e, fun f hf => h.all f (Array.mem_toList_iff.2 hf)⟩

abbrev Table := List (TypeId × TI)

def Table.get : Table → TypeId → Option TI
  | [], _ => none
  | (k, i) :: l, t => if t = k then some i else Table.get l t

inductive Table.Ok (P : Program) : Table → Prop
  | nil : Table.Ok P []
  | cons {t : TypeId} {i : TI} {l : Table} : TOk P t i → Table.Ok P l → Table.Ok P ((t, i) :: l)

theorem Table.Ok.get {P : Program} {l : Table} (h : Table.Ok P l) (t : TypeId) (i : TI) (e : l.get t = some i) : TOk P t i := by
  induction h with
  | nil => simp [Table.get] at e
  | cons hi _ ih =>
    simp only [Table.get] at e
    split at e
    · rename_i ht; subst ht; injection e with e; subst e; exact hi
    · exact ih e

/-- Contracts, each kept. -/
inductive Kept' (P : Program) : List (FuncId × Cn) → Prop
  | nil : Kept' P []
  | cons {f : FuncId} {c : Cn} {l : List (FuncId × Cn)} : Ok P f c → Kept' P l → Kept' P ((f, c) :: l)
  | consX {f : FuncId} {c : Cn} {l : List (FuncId × Cn)} : OkX P f c → Kept' P l → Kept' P ((f, c) :: l)

/-- All range functions of a list keep what is said of them. -/
inductive KeptR (P : Program) : List (FuncId × (Cn → Cn)) → Prop
  | nil : KeptR P []
  | cons {f : FuncId} {c : Cn → Cn} {l : List (FuncId × (Cn → Cn))} : OkR P f c → KeptR P l → KeptR P ((f, c) :: l)
theorem KeptR.get {P : Program} {l : List (FuncId × (Cn → Cn))} (h : KeptR P l) (f : FuncId) (c : Cn → Cn) (e : lkR l f = some c) : OkR P f c := by
  induction h with
  | nil => simp [lkR] at e
  | cons hi _ ih =>
    simp only [lkR] at e
    split at e
    · rename_i ht; subst ht; injection e with e; subst e; exact hi
    · exact ih e

theorem Kept'.get {P : Program} {l : List (FuncId × Cn)} (h : Kept' P l) (f : FuncId) (c : Cn) (e : lk l f = some c) : OkE P f c := by
  induction h with
  | nil => simp [lk] at e
  | cons hi _ ih =>
    simp only [lk] at e
    split at e
    · rename_i ht; subst ht; injection e with e; subst e; exact .inl hi
    · exact ih e
  | consX hi _ ih =>
    simp only [lk] at e
    split at e
    · rename_i ht; subst ht; injection e with e; subst e; exact .inr hi
    · exact ih e
end Go.Proofs.Ytaojebdjkpdcdaa.I
