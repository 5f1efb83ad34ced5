/- Rows of bools that come from outside. -/
import Derived.Test.YtaojebdjkpdcdaaLaw
namespace Go.Proofs.Ytaojebdjkpdcdaa.I
open Go Go.RowKit Go.ChangeAt Go.ChangeShapes Go.WideShapes

def IsRowB (w : World) (a : Option Addr) (len cap : Nat) (zs : List Bool) : Prop :=
  (a = none ∧ len = 0 ∧ cap = 0 ∧ zs = []) ∨
  ∃ x, a = some x ∧ len ≤ cap ∧ cap ≤ maxLen ∧ zs.length = cap ∧ (∀ i, i < zs.length → w.cell? (x.add i) = some (.bool (zs.getD i false))) ∧ True

theorem rep_bools {W : World} {a : Option Addr} {len cap : Nat} {zs : List Bool} (h : IsRowB W a len cap zs) :
    ∃ xs : List Bool, Rep (base W) (.slice a len cap) (.sl (els V.b xs)) ∧ xs.length = len := by
  rcases h with ⟨rfl, rfl, rfl, rfl⟩ | ⟨x, rfl, hl, hm, hz, hc, _⟩
  · exact ⟨[], .sl0 _ _, rfl⟩
  · by_cases h0 : len = 0
    · subst h0; exact ⟨[], .sl0 _ _, rfl⟩
    · have hx : x.spot = none := by
        have := hc 0 (by omega)
        exact (cell_spot this).1
      obtain ⟨b, o, s⟩ := x
      simp only at hx
      subst hx
      refine ⟨zs.take len, rep_row (fun _ => rfl) Value.bool (fun x => .b x) (fun _ => rfl) _ (by simp; omega) hl hm (fun i hi => ?_), by simp; omega⟩
      have hi' : i < zs.length := by simp at hi; omega
      have := hc i hi'
      rw [add_off] at this
      rw [this]
      simp [List.getD, hi']

section
variable {H : Type} {enc : TypeId × Value → H} {P : Program} {w : World} {base : Nat} {spare : Nat → Bool} {held : Bool}
def bitOf (y : DataW H × List MemPlace) : Bool := match y.1 with | .lit (.bool b) => b | _ => false

theorem open_bools {t e : TypeId} {fuel : Nat} {cs : List Value} {x : DataW H × List MemPlace} (ht : P.underlying t = some (.slice e)) (he : P.underlying e = some .bool) (hc : P.cellsOf e = 1)
    (h : DataW.trod enc P w base spare held fuel t cs = some x) :
    (cs = [.slice none 0 0] ∧ x = (.nil, [])) ∨
    ∃ (a : Addr) (len cap : Nat) (zs : List Bool), cs = [.slice (some a) len cap] ∧ base ≤ a.block ∧ len ≤ cap ∧ cap ≤ maxLen ∧ zs.length = (if spare a.block then cap else len) ∧ True ∧
      (∀ i, i < zs.length → w.cell? (a.add i) = some (.bool (zs.getD i false))) ∧ True := by
  rcases DataW.trod_slice ht h with h0 | ⟨a, len, cap, elems, rest, n, _, rfl, rfl, hb, hl, hm, hlen, hel, hsp, hns⟩
  · exact Or.inl h0
  right
  have each : ∀ i y, (elems ++ rest)[i]? = some y → w.cell? (a.add i) = some (.bool (bitOf y)) := by
    intro i y hy
    have hb' : (w.cells? base (a.add (i * P.cellsOf e)) (P.cellsOf e)).bind (DataW.trod enc P w base spare held n e) = some y := by
      by_cases hi : i < len
      · rw [hel i hi, ← hy, List.getElem?_append_left (by omega)]
      · have hi' : i - len < rest.length := by
          have := (List.getElem?_eq_some_iff.1 hy).1
          simp at this
          omega
        cases hs : spare a.block with
        | false => rw [hns hs] at hi'; simp at hi'
        | true =>
          obtain ⟨hrl, hr⟩ := hsp hs
          have := hr (i - len) (by omega)
          rw [show len + (i - len) = i by omega] at this
          rw [this, ← hy, List.getElem?_append_right (by omega), hlen]
    rw [hc, Nat.mul_one, Option.bind_eq_some_iff] at hb'
    obtain ⟨cs', hcs, hy'⟩ := hb'
    obtain ⟨m, rfl, rfl⟩ := DataW.trod_bool he hy'
    exact cell_of_cells?_one hcs
  refine ⟨a, len, cap, (elems ++ rest).map bitOf, rfl, hb, hl, hm, ?_, trivial, ?_, trivial⟩
  · simp only [List.length_map, List.length_append, hlen]
    cases hs : spare a.block with
    | false => simp [hns hs]
    | true => simp [(hsp hs).1]; omega
  · intro i hi
    simp only [List.length_map] at hi
    have hy : (elems ++ rest)[i]? = some ((elems ++ rest)[i]'hi) := List.getElem?_eq_getElem hi
    have := each i _ hy
    have e : ((elems ++ rest).map bitOf).getD i false = bitOf ((elems ++ rest)[i]'hi) := by rw [List.getD, List.getElem?_map, hy]; rfl
    rw [this, e]

theorem size_slice {t e : TypeId} {fuel : Nat} {a : Option Addr} {len cap : Nat} {x : DataW H × List MemPlace} (ht : P.underlying t = some (.slice e))
    (h : DataW.trod enc P w base spare held fuel t [.slice a len cap] = some x) (hw : (x.1.weights P t).all (· ≤ reachBytes) = true) : len * P.bytesOf e ≤ reachBytes := by
  rcases DataW.trod_slice ht h with ⟨h0, _⟩ | ⟨a', len', cap', elems, rest, n, _, h1, rfl, hb, hl, hm, hlen, hel, hsp, hns⟩
  · simp at h0
    rw [h0.2.1]; simp
  · simp at h1
    obtain ⟨_, rfl, _⟩ := h1
    simp only [DataW.weights, ht, List.all_cons, Bool.and_eq_true, decide_eq_true_eq, List.length_map] at hw
    have := hw.1
    rw [← hlen]
    exact Nat.le_trans (Nat.mul_le_mul_right _ (Nat.le_add_right _ _)) this
end
end Go.Proofs.Ytaojebdjkpdcdaa.I
