/- Lists of plain data, as ideal values. -/
import Derived.Test.YtaojebdjkpdcdaaTable
import Derived.Test.YtaojebdjkpdcdaaCn
import Derived.Test.YtaojebdjkpdcdaaSkip
import Derived.Test.YtaojebdjkpdcdaaChecked
import Derived.KernelRfl
namespace Go.Proofs.Ytaojebdjkpdcdaa.I
open Go

@[go_sem] theorem most_eq : most = 1099511627776 := rfl
@[go_sem] theorem bmost_eq : bmost = 140737488355328 := rfl
@[go_sem] theorem longest_eq : longest = 9223372036854775807 := rfl

theorem mixed : Try.prog.follows .mixedOrders = true := Checked.mixed Try.checked

/-- Every contract of a list is left alone by calls that are said to be quiet. -/
inductive Quiets (qs : List FuncId) : List (FuncId × Cn) → Prop
  | nil : Quiets qs []
  | cons {f : FuncId} {c : Cn} {l : List (FuncId × Cn)} : (qs.contains f = true → Quiet c) → Quiets qs l → Quiets qs ((f, c) :: l)
theorem Quiets.get {qs : List FuncId} {l : List (FuncId × Cn)} (h : Quiets qs l) (f : FuncId) (c : Cn) (hq : qs.contains f = true) (e : lk l f = some c) : Quiet c := by
  induction h with
  | nil => simp [lk] at e
  | cons hi _ ih =>
    simp only [lk] at e
    split at e
    · rename_i ht; subst ht; injection e with e; subst e; exact hi hq
    · exact ih e

theorem cok_of {cx : Cx} (hT : cx.T = T) (hc : Kept' Try.prog cx.cs) (hq : Quiets cx.qs cx.cs) (hr : KeptR Try.prog cx.rs) : COk Try.prog cx :=
  ⟨fun t i h => table_ok.get t i (by rw [hT] at h; exact h), fun f c h => hc.get f c h, fun f c h e => hq.get f c h e, fun f c h => hr.get f c h⟩

@[go_sem] theorem om_put_put (om : Om) (id : Nat) (a b : List V) : (om.put id a).put id b = om.put id b := by
  funext k; simp only [Om.put]; split <;> rfl
theorem om_put_comm (om : Om) {i j : Nat} (h : i ≠ j) (a b : List V) : (om.put i a).put j b = (om.put j b).put i a := by
  funext k; simp only [Om.put]
  by_cases e : k = j
  · subst e
    have : ¬ k = i := fun x => h x.symm
    simp [this]
  · simp [e]

/-- Elements of one cell. -/
class Cell1 {α : Type} (e : α → V) : Prop where
  cl : ∀ x, (e x).clean = true
  wi : ∀ hs x, (e x).within hs = true
  ft : ∀ x, (e x).fits 1 false = true
  inj : ∀ x y, e x = e y → x = y
instance (k : IntKind) : Cell1 (V.n k) := ⟨fun _ => rfl, fun _ _ => rfl, fun _ => rfl, fun _ _ h => by injection h⟩
instance : Cell1 V.z := ⟨fun _ => rfl, fun _ _ => rfl, fun _ => rfl, fun _ _ h => by injection h⟩
instance : Cell1 V.b := ⟨fun _ => rfl, fun _ _ => rfl, fun _ => rfl, fun _ _ h => by injection h⟩

def els {α : Type} (e : α → V) (xs : List α) : List V := xs.map e

section
variable {α : Type} (e : α → V)
@[go_sem] theorem els_len (xs : List α) : (els e xs).length = xs.length := by simp [els]
@[go_sem] theorem els_take (xs : List α) (i : Nat) : (els e xs).take i = els e (xs.take i) := by simp [els]
@[go_sem] theorem els_drop (xs : List α) (i : Nat) : (els e xs).drop i = els e (xs.drop i) := by simp [els]
@[go_sem] theorem els_append (xs ys : List α) : els e xs ++ els e ys = els e (xs ++ ys) := by simp [els]
@[go_sem] theorem map_zs (k : IntKind) (n : Nat) : (zs n).map (V.n k) = els (V.n k) (zs n) := rfl
@[go_sem] theorem zs_len (n : Nat) : (zs n).length = n := by simp [zs]
theorem els_getD (xs : List α) (i : Nat) (d : α) : (els e xs).getD i (e d) = e (xs.getD i d) := by
  simp only [els, List.getD_eq_getElem?_getD, List.getElem?_map]
  cases xs[i]? <;> rfl
theorem els_getD' (xs : List α) (i : Nat) (d : α) (z : V) (h : i < xs.length) : (els e xs).getD i z = e (xs.getD i d) := by
  simp [els, List.getD_eq_getElem?_getD, h]
@[go_sem] theorem els_nil : els e [] = [] := rfl
@[go_sem] theorem els_cons (x : α) (xs : List α) : els e (x :: xs) = e x :: els e xs := rfl
theorem els_set (xs : List α) (i : Nat) (x : α) : (els e xs).set i (e x) = els e (xs.set i x) := by simp [els, List.map_set]
theorem els_replicate (n : Nat) (x : α) : List.replicate n (e x) = els e (List.replicate n x) := by simp [els]
theorem els_snoc (xs : List α) (x : α) : els e xs ++ [e x] = els e (xs ++ [x]) := by simp [els]
@[go_sem] theorem els_isEmpty (xs : List α) : (els e xs).isEmpty = xs.isEmpty := by simp [els]
@[go_sem] theorem els_eq_nil (xs : List α) : (els e xs = []) = (xs = []) := by simp [els]
@[go_sem] theorem nil_eq_els (xs : List α) : ([] = els e xs) = (xs = []) := by simp [els, eq_comm]
variable [c : Cell1 e]
@[go_sem] theorem els_uni (xs : List α) : uni 1 false (els e xs) = true := by simp [uni, els, c.ft]
@[go_sem] theorem els_all (xs : List α) : (els e xs).all (V.fits 1 false) = true := els_uni e xs
@[go_sem] theorem els_clean (xs : List α) : cleans (els e xs) = true := by
  rw [cleans_iff]; intro x hx
  obtain ⟨n, _, rfl⟩ := List.mem_map.1 hx; exact c.cl n
@[go_sem] theorem els_within (hs : List Nat) (xs : List α) : withins hs (els e xs) = true := by
  rw [withins_iff]; intro x hx
  obtain ⟨n, _, rfl⟩ := List.mem_map.1 hx; exact c.wi hs n
@[go_sem] theorem els_inj (xs ys : List α) : (els e xs = els e ys) = (xs = ys) := by
  apply propext
  unfold els
  constructor
  · intro h; exact (List.map_inj_right (fun a b h => c.inj a b h)).mp h
  · rintro rfl; rfl
end
@[go_sem] theorem els_getD_n (k : IntKind) (xs : List Nat) (i d : Nat) : (els (V.n k) xs).getD i (.n k d) = .n k (xs.getD i d) := els_getD _ _ _ _
@[go_sem] theorem els_getD_z (xs : List Int) (i : Nat) (d : Int) : (els V.z xs).getD i (.z d) = .z (xs.getD i d) := els_getD _ _ _ _
@[go_sem] theorem els_getD_b (xs : List Bool) (i : Nat) (d : Bool) : (els V.b xs).getD i (.b d) = .b (xs.getD i d) := els_getD _ _ _ _
@[go_sem] theorem els_set_n (k : IntKind) (xs : List Nat) (i x : Nat) : (els (V.n k) xs).set i (.n k x) = els (V.n k) (xs.set i x) := els_set _ _ _ _
@[go_sem] theorem els_set_z (xs : List Int) (i : Nat) (x : Int) : (els V.z xs).set i (.z x) = els V.z (xs.set i x) := els_set _ _ _ _
@[go_sem] theorem els_set_b (xs : List Bool) (i : Nat) (x : Bool) : (els V.b xs).set i (.b x) = els V.b (xs.set i x) := els_set _ _ _ _
@[go_sem] theorem els_rep_n (k : IntKind) (n x : Nat) : List.replicate n (V.n k x) = els (V.n k) (List.replicate n x) := els_replicate _ _ _
@[go_sem] theorem els_rep_z (n : Nat) (x : Int) : List.replicate n (V.z x) = els V.z (List.replicate n x) := els_replicate _ _ _
@[go_sem] theorem els_rep_b (n : Nat) (x : Bool) : List.replicate n (V.b x) = els V.b (List.replicate n x) := els_replicate _ _ _
@[go_sem] theorem els_snoc_n (k : IntKind) (xs : List Nat) (x : Nat) : els (V.n k) xs ++ [.n k x] = els (V.n k) (xs ++ [x]) := els_snoc _ _ _
@[go_sem] theorem els_snoc_z (xs : List Int) (x : Int) : els V.z xs ++ [.z x] = els V.z (xs ++ [x]) := els_snoc _ _ _
@[go_sem] theorem els_snoc_b (xs : List Bool) (x : Bool) : els V.b xs ++ [.b x] = els V.b (xs ++ [x]) := els_snoc _ _ _
theorem wf_n (k : IntKind) (xs : List Nat) : wfs (els (V.n k) xs) ↔ ∀ x ∈ xs, x < 2 ^ k.bits := by
  rw [wfs_iff]
  constructor
  · intro h x hx; exact h _ (List.mem_map.2 ⟨x, hx, rfl⟩)
  · intro h y hy
    obtain ⟨n, hn, rfl⟩ := List.mem_map.1 hy
    exact h n hn

/-- Lists of a kind. -/
def decs {α : Type} (A : Ty α) : List V → Option (List α)
  | [] => some []
  | v :: vs => match A.dec v, decs A vs with
    | some x, some xs => some (x :: xs)
    | _, _ => none
theorem decs_els {α : Type} (A : Ty α) (xs : List α) : decs A (els A.enc xs) = some xs := by
  induction xs with
  | nil => rfl
  | cons x xs ih => rw [els_cons, decs, A.h1, ih]
theorem els_decs {α : Type} (A : Ty α) : ∀ (vs : List V) (xs : List α), decs A vs = some xs → vs = els A.enc xs
  | [], xs, h => by injection h with h; subst h; rfl
  | v :: vs, xs, h => by
    simp only [decs] at h
    split at h
    · rename_i x ys h1 h2
      injection h with h; subst h
      rw [els_cons, ← A.h2 _ _ h1, ← els_decs A vs ys h2]
    · cases h
def tL {α : Type} (A : Ty α) : Ty (List α) where
  enc := fun xs => .sl (els A.enc xs)
  dec := fun | .sl vs => decs A vs | _ => none
  h1 := fun xs => decs_els A xs
  h2 := fun v xs h => by
    cases v <;> simp only [reduceCtorEq] at h
    rw [els_decs A _ _ h]
abbrev tU : Ty (List Nat) := tL (tN .u64)
abbrev tZs : Ty (List Int) := tL tZ
abbrev tBs : Ty (List Bool) := tL tB
@[go_sem] theorem tLn_enc (k : IntKind) (xs : List Nat) : (tL (tN k)).enc xs = .sl (els (V.n k) xs) := rfl
@[go_sem] theorem tLz_enc (xs : List Int) : (tL tZ).enc xs = .sl (els V.z xs) := rfl
@[go_sem] theorem tLb_enc (xs : List Bool) : (tL tB).enc xs = .sl (els V.b xs) := rfl
@[go_sem] theorem tL_dec {α : Type} (A : Ty α) (vs : List V) : (tL A).dec (.sl vs) = decs A vs := rfl
@[go_sem] theorem decs_n (k : IntKind) (xs : List Nat) : decs (tN k) (els (V.n k) xs) = some xs := decs_els _ _
@[go_sem] theorem decs_z (xs : List Int) : decs tZ (els V.z xs) = some xs := decs_els _ _
@[go_sem] theorem decs_b (xs : List Bool) : decs tB (els V.b xs) = some xs := decs_els _ _
@[go_sem] theorem decs_nil {α : Type} (A : Ty α) : decs A [] = some [] := rfl
attribute [go_sem] decs.eq_2

theorem wf_u {xs : List Nat} (h : wfs [V.sl (els (V.n .u64) xs)]) : xs.length ≤ longest ∧ ∀ x ∈ xs, x < 18446744073709551616 := by
  obtain ⟨⟨h1, h2⟩, _⟩ := h
  rw [els_len] at h1
  exact ⟨h1, (wf_n .u64 xs).1 h2⟩

attribute [go_sem] Hm.mk.injEq List.take_length List.append_eq true_or or_true

/-- A list that is being filled. -/
def filled {α : Type} (n k : Nat) (g : Nat → α) (z : α) : List α := (List.range n).map fun i => if i < k then g i else z
section
variable {α : Type} (n k : Nat) (g : Nat → α) (z : α)
@[go_sem] theorem filled_len : (filled n k g z).length = n := by simp [filled]
@[go_sem] theorem filled_take : (filled n k g z).take n = filled n k g z := by rw [List.take_of_length_le]; simp [filled]
theorem filled_zero : filled n 0 g z = List.replicate n z := by
  apply List.ext_getElem <;> simp [filled]
theorem filled_all : filled n n g z = (List.range n).map g := by
  apply List.ext_getElem
  · simp [filled]
  · intro i h1 h2; simp [filled] at h1 ⊢; omega
theorem filled_set : (filled n k g z).set k (g k) = filled n (k + 1) g z := by
  apply List.ext_getElem
  · simp [filled]
  · intro i h1 h2
    simp [filled] at h1 ⊢
    rw [List.getElem_set]
    by_cases e : k = i
    · subst e; simp
    · have : (i < k) ↔ (i < k + 1) := by omega
      simp [e, this]
theorem filled_getD (i : Nat) (hi : i < n) (d : α) : (filled n k g z).getD i d = if i < k then g i else z := by
  simp [filled, List.getD, hi]
end
end Go.Proofs.Ytaojebdjkpdcdaa.I
