/- Texts of the ideal machine, or of plain numbers, one behind the other: Law, LawB. -/
import Derived.Test.YtlcnohmnemmbdaaM3
import Derived.Test.YtlcnohmnemmbdaaRows
import Derived.WalkKit
import Derived.ProofKit
import Derived.OpenShut
import Derived.ShutString
import Derived.ChangeOld
import Derived.Below
import Derived.SizedLaws
import Derived.Carry
/- From a contract to a statement: what comes from outside, as ideal values. -/
namespace Go.Proofs.Ytlcnohmnemmbdaa.I
open Go Go.RowKit Go.ChangeAt

/-- The world as a call of a statement begins: all cells are as they are. -/
def base (W : World) : Lay := ⟨W, fun b _ => b < W.heap.size, fun _ => False, fun _ => (0, 0), fun _ => 0, fun _ => 0⟩

theorem law_of {P : Program} {n : FuncId} {c : Cn} (h : Ok P n c) {args : List V} {vs : List Value} (W : World) (hr : RepL (base W) vs args) (hcl : cleans args = true) (hc : @c args (fun _ => none) ⟨fun r _ => r = .b true⟩) :
    Calls P n vs.toArray W fun e w' => e = .returned (.bool true) ∧ Below W.heap.size W w' := by
  refine (h.tells (base W) (fun _ => none) args vs _ ⟨fun id cs e => (by cases e), fun b o h => h⟩ hr hcl hc).mono ?_
  rintro e w' ⟨v, Y, r, om', rfl, rfl, rfl, hrep, _, hk⟩
  refine ⟨by cases hrep; rfl, hk.fn.os, hk.fn.tape, hk.fn.output, hk.fn.size, fun b hb => hk.fb b hb rfl⟩

def IsRow (k : IntKind) (w : World) (a : Option Addr) (len cap : Nat) (zs : List Int) : Prop :=
  (a = none ∧ len = 0 ∧ cap = 0 ∧ zs = []) ∨
  ∃ x, a = some x ∧ len ≤ cap ∧ cap ≤ maxLen ∧ zs.length = cap ∧ (∀ i, i < zs.length → w.cell? (x.add i) = some (.int k (zs.getD i 0))) ∧ ∀ n ∈ zs, (Lit.int k n).wf = true

theorem cell_spot {W : World} {x : Addr} {v : Value} (h : W.cell? x = some v) : x.spot = none ∧ x.block < W.heap.size := by
  unfold World.cell? at h
  split at h
  · rename_i hb
    refine ⟨?_, (Array.getElem?_eq_some_iff.1 hb).1⟩
    cases hs : x.spot with
    | none => rfl
    | some s => simp [hs] at h
  · cases h

theorem flat_els {α : Type} {e : α → V} (h1 : ∀ x, (e x).cells = [e x]) (xs : List α) : flat (els e xs) = els e xs := by
  induction xs with
  | nil => rfl
  | cons x xs ih => rw [els_cons]; simp only [flat, List.flatMap_cons, h1] at *; rw [ih]; rfl

/-- A row of cells, each of one value. -/
theorem rep_row {α : Type} {e : α → V} [Cell1 e] (h1 : ∀ x, (e x).cells = [e x]) {W : World} {b o len cap : Nat} (f : α → Value) (hf : ∀ x, Rep (base W) (f x) (e x)) (ho : ∀ x, (f x).oneCell' = true)
    (xs : List α) (hl : xs.length = len) (hlc : len ≤ cap) (hm : cap ≤ maxLen) (hc : ∀ i (h : i < xs.length), W.cell? ⟨b, o + i, none⟩ = some (f xs[i])) :
    Rep (base W) (.slice (some ⟨b, o, none⟩) len cap) (.sl (els e xs)) := by
  have hlen : (els e xs).length = len := by rw [els_len, hl]
  have := Rep.sl (X := base W) b o cap 1 (els e xs) (fun k => if h : k < xs.length then f xs[k] else undef) (by omega) hm (els_clean e xs) (fun y hy => by
    obtain ⟨x, _, rfl⟩ := List.mem_map.1 hy; rw [h1]; rfl) (fun k hk => by
      rw [flat_els h1, els_len] at hk
      rw [dif_pos hk]
      exact ⟨(cell_spot (hc k hk)).2, hc k hk, ho _⟩) (fun k hk => by
      have hk' : k < xs.length := by rw [flat_els h1, els_len] at hk; exact hk
      rw [dif_pos hk']
      have e1 : (flat (els e xs))[k] = e xs[k] := by
        have := flat_els h1 xs
        simp only [this]
        simp [els]
      rw [e1]; exact hf _)
  rwa [hlen] at this

theorem rep_ints {k : IntKind} (hk : k.signed = false) {W : World} {a : Option Addr} {len cap : Nat} {zs : List Int} (h : IsRow k W a len cap zs) :
    ∃ xs : List Nat, Rep (base W) (.slice a len cap) (.sl (els (V.n k) xs)) ∧ xs.length = len := by
  rcases h with ⟨rfl, rfl, rfl, rfl⟩ | ⟨x, rfl, hl, hm, hz, hc, hw⟩
  · exact ⟨[], .sl0 _ _, rfl⟩
  · have hmin : k.min = 0 := by cases k <;> simp [IntKind.signed] at hk <;> rfl
    have hmax : k.max + 1 = 2 ^ k.bits := by cases k <;> simp [IntKind.signed] at hk <;> rfl
    have rng : ∀ n ∈ zs, 0 ≤ n ∧ n.toNat < 2 ^ k.bits := fun n hn => by
      have := hw n hn
      simp only [Lit.wf, Bool.and_eq_true, decide_eq_true_eq, hmin] at this
      refine ⟨this.1, ?_⟩
      have h2 := this.2
      have : (n.toNat : Int) < ((2 ^ k.bits : Nat) : Int) := by rw [Int.natCast_pow]; show _ < (2 : Int) ^ k.bits; omega
      exact_mod_cast this
    by_cases h0 : len = 0
    · subst h0; exact ⟨[], .sl0 _ _, rfl⟩
    · have hx : x.spot = none := by
        have := hc 0 (by omega)
        exact (cell_spot this).1
      obtain ⟨b, o, s⟩ := x
      simp only at hx
      subst hx
      refine ⟨(zs.take len).map Int.toNat, ?_, by simp; omega⟩
      have hlen : (zs.take len).length = len := by simp; omega
      have hsl := Rep.sl (X := base W) b o cap 1 (els (V.n k) ((zs.take len).map Int.toNat)) (fun i => .int k (zs.getD i 0)) (by rw [els_len]; simp; omega) hm (els_clean _ _) (fun y hy => by
          obtain ⟨x, _, rfl⟩ := List.mem_map.1 hy; rfl) (fun i hi => by
          rw [flat_els (fun _ => rfl), els_len, List.length_map, hlen] at hi
          have := hc i (by omega)
          rw [add_off] at this
          exact ⟨(cell_spot this).2, this, rfl⟩) (fun i hi => by
          have hi' : i < len := by rw [flat_els (fun _ => rfl), els_len, List.length_map, hlen] at hi; exact hi
          have hz' : i < zs.length := by omega
          have e1 : (flat (els (V.n k) ((zs.take len).map Int.toNat)))[i] = V.n k zs[i].toNat := by
            have := flat_els (e := V.n k) (fun _ => rfl) ((zs.take len).map Int.toNat)
            simp only [this]
            simp [els]
          rw [e1]
          have e2 : zs.getD i 0 = zs[i] := by simp [List.getD, hz']
          obtain ⟨r1, r2⟩ := rng zs[i] (List.getElem_mem hz')
          rw [e2]
          have := Rep.n (X := base W) k zs[i].toNat hk r2
          rwa [Int.toNat_of_nonneg r1] at this)
      rw [els_len, List.length_map, hlen] at hsl
      exact hsl

theorem rep_nat {k : IntKind} (hk : k.signed = false) {W : World} {n : Int} (h : (Lit.int k n).wf = true) : Rep (base W) (.int k n) (.n k n.toNat) := by
  have hmin : k.min = 0 := by cases k <;> simp [IntKind.signed] at hk <;> rfl
  have hmax : k.max + 1 = 2 ^ k.bits := by cases k <;> simp [IntKind.signed] at hk <;> rfl
  simp only [Lit.wf, Bool.and_eq_true, decide_eq_true_eq, hmin] at h
  have r2 : n.toNat < 2 ^ k.bits := by
    have : (n.toNat : Int) < ((2 ^ k.bits : Nat) : Int) := by rw [Int.natCast_pow]; show _ < (2 : Int) ^ k.bits; omega
    exact_mod_cast this
  have := Rep.n (X := base W) k n.toNat hk r2
  rwa [Int.toNat_of_nonneg h.1] at this

theorem rep_i64 {W : World} {n : Int} (h : (Lit.int .i64 n).wf = true) : Rep (base W) (.int .i64 n) (.z n) := by
  refine .z n ?_
  have h1 : IntKind.i64.min = -9223372036854775808 := rfl
  have h2 : IntKind.i64.max = 9223372036854775807 := rfl
  simp only [Lit.wf, Bool.and_eq_true, decide_eq_true_eq, h1, h2] at h
  exact h
end Go.Proofs.Ytlcnohmnemmbdaa.I
/- Rows of bools that come from outside. -/
namespace Go.Proofs.Ytlcnohmnemmbdaa.I
open Go Go.RowKit Go.ChangeAt Go.ChangeShapes Go.WideShapes

def IsRowB (w : World) (a : Option Addr) (len cap : Nat) (zs : List Bool) : Prop :=
  (a = none ∧ len = 0 ∧ cap = 0 ∧ zs = []) ∨
  ∃ x, a = some x ∧ len ≤ cap ∧ cap ≤ maxLen ∧ zs.length = cap ∧ (∀ i, i < zs.length → w.cell? (x.add i) = some (.bool (zs.getD i false))) ∧ True

theorem rep_bools {W : World} {a : Option Addr} {len cap : Nat} {zs : List Bool} (h : IsRowB W a len cap zs) :
    ∃ xs : List Bool, Rep (base W) (.slice a len cap) (.sl (els V.b xs)) ∧ xs.length = len := by
  rcases h with ⟨rfl, rfl, rfl, rfl⟩ | ⟨x, rfl, hl, hm, hz, hc, _⟩
  · exact ⟨[], .sl0 _ _, rfl⟩
  · by_cases h0 : len = 0
    · subst h0; exact ⟨[], .sl0 _ _, rfl⟩
    · have hx : x.spot = none := by
        have := hc 0 (by omega)
        exact (cell_spot this).1
      obtain ⟨b, o, s⟩ := x
      simp only at hx
      subst hx
      refine ⟨zs.take len, rep_row (fun _ => rfl) Value.bool (fun x => .b x) (fun _ => rfl) _ (by simp; omega) hl hm (fun i hi => ?_), by simp; omega⟩
      have hi' : i < zs.length := by simp at hi; omega
      have := hc i hi'
      rw [add_off] at this
      rw [this]
      simp [List.getD, hi']

section
variable {H : Type} {enc : TypeId × Value → H} {P : Program} {w : World} {base : Nat} {spare : Nat → Bool} {held : Bool}
def bitOf (y : DataW H × List MemPlace) : Bool := match y.1 with | .lit (.bool b) => b | _ => false

theorem open_bools {t e : TypeId} {fuel : Nat} {cs : List Value} {x : DataW H × List MemPlace} (ht : P.underlying t = some (.slice e)) (he : P.underlying e = some .bool) (hc : P.cellsOf e = 1)
    (h : DataW.trod enc P w base spare held fuel t cs = some x) :
    (cs = [.slice none 0 0] ∧ x = (.nil, [])) ∨
    ∃ (a : Addr) (len cap : Nat) (zs : List Bool), cs = [.slice (some a) len cap] ∧ base ≤ a.block ∧ len ≤ cap ∧ cap ≤ maxLen ∧ zs.length = (if spare a.block then cap else len) ∧ True ∧
      (∀ i, i < zs.length → w.cell? (a.add i) = some (.bool (zs.getD i false))) ∧ True := by
  rcases DataW.trod_slice ht h with h0 | ⟨a, len, cap, elems, rest, n, _, rfl, rfl, hb, hl, hm, hlen, hel, hsp, hns⟩
  · exact Or.inl h0
  right
  have each : ∀ i y, (elems ++ rest)[i]? = some y → w.cell? (a.add i) = some (.bool (bitOf y)) := by
    intro i y hy
    have hb' : (w.cells? base (a.add (i * P.cellsOf e)) (P.cellsOf e)).bind (DataW.trod enc P w base spare held n e) = some y := by
      by_cases hi : i < len
      · rw [hel i hi, ← hy, List.getElem?_append_left (by omega)]
      · have hi' : i - len < rest.length := by
          have := (List.getElem?_eq_some_iff.1 hy).1
          simp at this
          omega
        cases hs : spare a.block with
        | false => rw [hns hs] at hi'; simp at hi'
        | true =>
          obtain ⟨hrl, hr⟩ := hsp hs
          have := hr (i - len) (by omega)
          rw [show len + (i - len) = i by omega] at this
          rw [this, ← hy, List.getElem?_append_right (by omega), hlen]
    rw [hc, Nat.mul_one, Option.bind_eq_some_iff] at hb'
    obtain ⟨cs', hcs, hy'⟩ := hb'
    obtain ⟨m, rfl, rfl⟩ := DataW.trod_bool he hy'
    exact cell_of_cells?_one hcs
  refine ⟨a, len, cap, (elems ++ rest).map bitOf, rfl, hb, hl, hm, ?_, trivial, ?_, trivial⟩
  · simp only [List.length_map, List.length_append, hlen]
    cases hs : spare a.block with
    | false => simp [hns hs]
    | true => simp [(hsp hs).1]; omega
  · intro i hi
    simp only [List.length_map] at hi
    have hy : (elems ++ rest)[i]? = some ((elems ++ rest)[i]'hi) := List.getElem?_eq_getElem hi
    have := each i _ hy
    have e : ((elems ++ rest).map bitOf).getD i false = bitOf ((elems ++ rest)[i]'hi) := by rw [List.getD, List.getElem?_map, hy]; rfl
    rw [this, e]

theorem size_slice {t e : TypeId} {fuel : Nat} {a : Option Addr} {len cap : Nat} {x : DataW H × List MemPlace} (ht : P.underlying t = some (.slice e))
    (h : DataW.trod enc P w base spare held fuel t [.slice a len cap] = some x) (hw : (x.1.weights P t).all (· ≤ reachBytes) = true) : len * P.bytesOf e ≤ reachBytes := by
  rcases DataW.trod_slice ht h with ⟨h0, _⟩ | ⟨a', len', cap', elems, rest, n, _, h1, rfl, hb, hl, hm, hlen, hel, hsp, hns⟩
  · simp at h0
    rw [h0.2.1]; simp
  · simp at h1
    obtain ⟨_, rfl, _⟩ := h1
    simp only [DataW.weights, ht, List.all_cons, Bool.and_eq_true, decide_eq_true_eq, List.length_map] at hw
    have := hw.1
    rw [← hlen]
    exact Nat.le_trans (Nat.mul_le_mul_right _ (Nat.le_add_right _ _)) this
end
end Go.Proofs.Ytlcnohmnemmbdaa.I
