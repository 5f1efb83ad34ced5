/- From a contract to a statement: a number of two words comes from outside. -/
import Derived.Test.YtaojebdjkpdcdaaLaw
import Derived.Test.YtaojebdjkpdcdaaWide1
import Derived.Lib.SmallJoins
namespace Go.Proofs.Ytaojebdjkpdcdaa.I
open Go Go.RowKit Go.ChangeAt Go.Joins Go.ChangeShapes Go.WideShapes Go.Deep

theorem open_w {H : Type} {enc : TypeId × Value → H} {P : Program} {w : World} {base : Nat} {spare : Nat → Bool} {held : Bool} {r : Go.Reach} {b0 : Nat} {t : TypeId} {f0 f1 : Field} {v : Value} {d : DataW H} {p : List MemPlace} (hs : P.underlying t = some (.struct #[f0, f1])) (hone : oneCellFields P #[f0, f1] = true) (hC : P.cellsOf t = 2)
    (u0 : P.underlying f0.type = some (.int .u64)) (u1 : P.underlying f1.type = some (.int .u64)) (hv : Value.okWide P w r b0 t v) (h : DataW.Trod enc P w base spare held t v d p) :
    ∃ a b : Int, v = .agg #[.int .u64 a, .int .u64 b] ∧ d = .agg [.lit (.int .u64 a), .lit (.int .u64 b)] ∧ p = [] ∧ (Lit.int .u64 a).wf = true ∧ (Lit.int .u64 b).wf = true := by
  obtain ⟨c0, c1, y0, y1, m, rfl, rfl, rfl, h0, h1⟩ := open_agg2 hs hone hC hv h
  obtain ⟨a, e0, rfl, wa⟩ := DataW.trod_int u0 h0
  obtain ⟨b, e1, rfl, wb⟩ := DataW.trod_int u1 h1
  simp at e0 e1
  subst e0 e1
  exact ⟨a, b, rfl, rfl, rfl, wa, wb⟩
theorem shut_w {H : Type} {enc : TypeId × Value → H} {P : Program} {w : World} {base : Nat} {spare : Nat → Bool} {held : Bool} {t : TypeId} {f0 f1 : Field} {a b : Int} (hs : P.underlying t = some (.struct #[f0, f1])) (hone : oneCellFields P #[f0, f1] = true) (hC : P.cellsOf t = 2)
    (u0 : P.underlying f0.type = some (.int .u64)) (u1 : P.underlying f1.type = some (.int .u64)) (wa : (Lit.int .u64 a).wf = true) (wb : (Lit.int .u64 b).wf = true) :
    DataW.Trod enc P w base spare held t (.agg #[.int .u64 a, .int .u64 b]) (.agg [.lit (.int .u64 a), .lit (.int .u64 b)]) [] :=
  shut_agg2 (y0 := (.lit (.int .u64 a), [])) (y1 := (.lit (.int .u64 b), [])) hs hone hC ⟨1, by simp [DataW.trod, u0, wa]⟩ ⟨1, by simp [DataW.trod, u1, wb]⟩
theorem rep_w {W : World} {a b : Int} (wa : (Lit.int .u64 a).wf = true) (wb : (Lit.int .u64 b).wf = true) :
    ∃ n : Nat, Rep (base W) (.agg #[.int .u64 a, .int .u64 b]) (.agg [.n .u64 (n / 18446744073709551616), .n .u64 (n % 18446744073709551616)]) := by
  have ra := rep_nat (W := W) (k := .u64) rfl wa
  have rb := rep_nat (W := W) (k := .u64) rfl wb
  have lb : b.toNat < 18446744073709551616 := by cases rb with | n _ _ _ h => exact h
  refine ⟨a.toNat * 18446744073709551616 + b.toNat, ?_⟩
  rw [show (a.toNat * 18446744073709551616 + b.toNat) / 18446744073709551616 = a.toNat by omega, show (a.toNat * 18446744073709551616 + b.toNat) % 18446744073709551616 = b.toNat by omega]
  refine .agg _ _ rfl (by simp [Value.oneCell']) fun k h h' => ?_
  match k, h with
  | 0, _ => exact ra
  | 1, _ => exact rb
end Go.Proofs.Ytaojebdjkpdcdaa.I
