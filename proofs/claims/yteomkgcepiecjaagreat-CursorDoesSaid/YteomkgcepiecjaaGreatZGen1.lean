/- gen: states of any kind; of; what each kind does. -/
import Derived.Test.YteomkgcepiecjaaGreatZG7
import Derived.Test.YteomkgcepiecjaaGreatZG6
import Derived.Test.YteomkgcepiecjaaGreatZG4
namespace Go.Proofs.YteomkgcepiecjaaGreat.I
open Go
open Nat renaming reduceEqDiff → kn1, reduceBEq → kn2, reducePow → kn3, reduceMod → kn4, reduceAdd → kn5, reduceSub → kn6, reduceMul → kn7, reduceDiv → kn8, reduceLeDiff → kn9, reduceLT → kn0, zero_lt_one → kq1, zero_add → kq2, zero_le → kq3, le_refl → kq4
open Int renaming reduceToNat → kz1, reduceAdd → kz2, reduceSub → kz3, reduceMul → kz4, reduceDiv → kz5, reduceMod → kz6, reduceLE → kz7, reduceLT → kz8, reduceNeg → kz9, reduceEq → kz0
set_option maxRecDepth 10000
set_option linter.unusedSimpArgs false
set_option linter.unusedVariables false
theorem mtOk_in {P : Program} {t : TypeId} {m : String} {f : FuncId} {inf : TypeInfo} {d : TypeDesc} (h1 : P.info? t = some inf) (h2 : (inf.methods.find? (·.name == m)).map (fun r => (r.path, r.func)) = some (#[], some (f, false)))
    (h5 : P.underlying t = some d) (h6 : ∀ e, d ≠ .pointer e) : MtOk P t m f := by
  cases h : inf.methods.find? (·.name == m) with
  | none => rw [h] at h2; cases h2
  | some r =>
    rw [h] at h2
    simp only [Option.map_some, Option.some.injEq, Prod.mk.injEq] at h2
    exact mtOk_of h1 h h2.1 h2.2 h5 h6
def d0 : D2 := ⟨0, 0⟩
def k0 : K2 := ⟨0, 0⟩
def h0 : HS := ⟨0, k0, false⟩
structure GS where
  kind : Int
  mix : Nat
  x : X4
  p : D2
  f : HS
deriving DecidableEq
def vG (s : GS) : V := .agg [.z s.kind, .n .u64 s.mix, .n .u64 s.x.a, .n .u64 s.x.b, .n .u64 s.x.c, .n .u64 s.x.d, .n .u64 (s.p.a / 18446744073709551616), .n .u64 (s.p.a % 18446744073709551616), .n .u64 (s.p.b / 18446744073709551616), .n .u64 (s.p.b % 18446744073709551616), .n .u64 (s.f.c / 18446744073709551616), .n .u64 (s.f.c % 18446744073709551616), .n .u32 s.f.k.a, .n .u32 s.f.k.b, .b s.f.h]
@[go_sem] theorem vG_eq (s : GS) : vG s = .agg [.z s.kind, .n .u64 s.mix, .n .u64 s.x.a, .n .u64 s.x.b, .n .u64 s.x.c, .n .u64 s.x.d, .n .u64 (s.p.a / 18446744073709551616), .n .u64 (s.p.a % 18446744073709551616), .n .u64 (s.p.b / 18446744073709551616), .n .u64 (s.p.b % 18446744073709551616), .n .u64 (s.f.c / 18446744073709551616), .n .u64 (s.f.c % 18446744073709551616), .n .u32 s.f.k.a, .n .u32 s.f.k.b, .b s.f.h] := rfl
theorem vG_inj (s t : GS) (h : vG s = vG t) : s = t := by
  obtain ⟨k, m, ⟨a, b, c, d⟩, ⟨p, q⟩, ⟨f, ⟨u, v⟩, w⟩⟩ := s
  obtain ⟨k', m', ⟨a', b', c', d'⟩, ⟨p', q'⟩, ⟨f', ⟨u', v'⟩, w'⟩⟩ := t
  simp only [vG_eq, V.agg.injEq, List.cons.injEq, V.n.injEq, V.z.injEq, V.b.injEq, true_and, and_true] at h
  obtain ⟨h1, h2, h3, h4, h5, h6, h7, h8, h9, h10, h11, h12, h13, h14, h15⟩ := h
  obtain rfl : p = p' := by omega
  obtain rfl : q = q' := by omega
  obtain rfl : f = f' := by omega
  subst h1 h2 h3 h4 h5 h6 h13 h14 h15
  rfl
noncomputable def tG : Ty GS := Ty.by vG vG_inj
@[go_sem] theorem tG_enc (s : GS) : tG.enc s = .agg [.z s.kind, .n .u64 s.mix, .n .u64 s.x.a, .n .u64 s.x.b, .n .u64 s.x.c, .n .u64 s.x.d, .n .u64 (s.p.a / 18446744073709551616), .n .u64 (s.p.a % 18446744073709551616), .n .u64 (s.p.b / 18446744073709551616), .n .u64 (s.p.b % 18446744073709551616), .n .u64 (s.f.c / 18446744073709551616), .n .u64 (s.f.c % 18446744073709551616), .n .u32 s.f.k.a, .n .u32 s.f.k.b, .b s.f.h] := rfl
@[go_sem] theorem tG_dec (k : Int) (m a b c d p q f u v : Nat) (w : Bool) : tG.dec (.agg [.z k, .n .u64 m, .n .u64 a, .n .u64 b, .n .u64 c, .n .u64 d, .n .u64 (p / 18446744073709551616), .n .u64 (p % 18446744073709551616), .n .u64 (q / 18446744073709551616), .n .u64 (q % 18446744073709551616), .n .u64 (f / 18446744073709551616), .n .u64 (f % 18446744073709551616), .n .u32 u, .n .u32 v, .b w]) = some ⟨k, m, ⟨a, b, c, d⟩, ⟨p, q⟩, ⟨f, ⟨u, v⟩, w⟩⟩ := tG.h1 ⟨k, m, ⟨a, b, c, d⟩, ⟨p, q⟩, ⟨f, ⟨u, v⟩, w⟩⟩
@[go_sem] theorem GS_eta (s : GS) : (⟨s.kind, s.mix, s.x, s.p, ⟨s.f.c, s.f.k, s.f.h⟩⟩ : GS) = s := rfl
@[go_sem] theorem GS_eta' (s : GS) : (⟨s.kind, s.mix, s.x, s.p, s.f⟩ : GS) = s := rfl
@[go_sem] theorem K2_eta (s : K2) : (⟨s.a, s.b⟩ : K2) = s := rfl
theorem tG_1 (k : Int) (m : Nat) : tG.dec (.agg [.z k, .n .u64 m, .n .u64 0, .n .u64 0, .n .u64 0, .n .u64 0, .n .u64 0, .n .u64 0, .n .u64 0, .n .u64 0, .n .u64 0, .n .u64 0, .n .u32 0, .n .u32 0, .b false]) = some ⟨k, m, x0, d0, h0⟩ := by
  have := tG.h1 ⟨k, m, x0, d0, h0⟩
  simpa only [tG_enc, x0, d0, h0, k0, Nat.zero_div, Nat.zero_mod] using this
def GS.wf (s : GS) : Prop := s.mix < 18446744073709551616 ∧ s.x.wf ∧ s.p.wf ∧ s.f.wf
theorem wf_g {s : GS} {vs : List V} (h : wfs (tG.enc s :: vs)) : s.wf ∧ i64ok s.kind := by
  rw [tG_enc] at h
  obtain ⟨⟨h1, h2, h3, h4, h5, h6, h7, h8, h9, h10, h11, h12, h13, h14, -⟩, -⟩ := h
  replace h2 : s.mix < 18446744073709551616 := h2
  replace h7 : s.p.a / 18446744073709551616 < 18446744073709551616 := h7
  replace h9 : s.p.b / 18446744073709551616 < 18446744073709551616 := h9
  replace h11 : s.f.c / 18446744073709551616 < 18446744073709551616 := h11
  exact ⟨⟨h2, ⟨h3, h4, h5, h6⟩, ⟨by omega, by omega⟩, ⟨by omega, h13, h14⟩⟩, h1⟩
def tE : Ty Unit where
  enc := fun _ => .agg []
  dec := fun | .agg [] => some () | _ => none
  h1 := fun _ => rfl
  h2 := fun v a e => by
    match v, e with
    | .agg [], _ => rfl
@[go_sem] theorem tE_enc (x : Unit) : tE.enc x = .agg [] := rfl
@[go_sem] theorem tE_dec : tE.dec (.agg []) = some () := rfl
def genOf (k : Int) : V := if k = 1 then .ifc 187 (.agg []) else if k = 2 then .ifc 188 (.agg []) else if k = 3 then .ifc 189 (.agg []) else if k = 4 then .ifc 190 (.agg []) else .nili
@[go_sem] theorem genOf_1 : genOf 1 = .ifc 187 (.agg []) := rfl
@[go_sem] theorem genOf_2 : genOf 2 = .ifc 188 (.agg []) := rfl
@[go_sem] theorem genOf_3 : genOf 3 = .ifc 189 (.agg []) := rfl
@[go_sem] theorem genOf_4 : genOf 4 = .ifc 190 (.agg []) := rfl
theorem genOf_no {k : Int} (h : ¬ (1 ≤ k ∧ k ≤ 4)) : genOf k = .nili := by
  unfold genOf; rw [if_neg (by omega), if_neg (by omega), if_neg (by omega), if_neg (by omega)]
@[go_sem] noncomputable def c_gen_of : Cn := fn1 tZ (fun _ => True) genOf
noncomputable def cx_gen_of : Cx := { T := T, E := E, cs := [], sch := [], ob := [], qs := [] }
@[go_sem] theorem cx_gen_of_e : cx_gen_of.gs = none ∧ cx_gen_of.md = 0 ∧ cx_gen_of.T = T ∧ cx_gen_of.E = E ∧ cx_gen_of.cs = [] ∧ ∀ d, (cx_gen_of.ob).contains d = false := ⟨rfl, rfl, rfl, rfl, rfl, fun _ => rfl⟩
theorem cok_gen_of : COk Tryz.prog (cx_gen_of) := cok_of rfl (.nil) (.nil) (.nil)
theorem ok_gen_of : Ok Tryz.prog 92 c_gen_of := by
  refine ok_fn1 cok_gen_of mixed Tryz.func92 rfl (by kernel_rfl) (by kernel_rfl) rfl ?_
  intro k om hw _
  simp only [go_sem, Tryz.f92, kn1, kn2, kn3, kn4, kn5, kn6, kn7, kn8, kn9, kz1, kz2, kz3, kz4, kz5, kz6, kz7, kz8, kz9, kz0, reduceCtorEq, String.reduceEq, kn0, kq1, kq2, kq3, kq4, Int.toNat_natCast]
  unfold genOf
  refine ⟨fun h => by rw [if_pos h], fun h => ⟨fun h' => by rw [if_neg h, if_pos h'], fun h' => ⟨fun g => by rw [if_neg h, if_neg h', if_pos g], fun g => ⟨fun g' => by rw [if_neg h, if_neg h', if_neg g, if_pos g'], fun g' => by rw [if_neg h, if_neg h', if_neg g, if_neg g']⟩⟩⟩⟩
@[go_sem] noncomputable def c_gen_mixKind_bits : Cn := fn1 tE (fun _ => True) fun _ => .z 63
noncomputable def cx_gen_mixKind_bits : Cx := { T := T, E := E, cs := [], sch := [], ob := [], qs := [] }
@[go_sem] theorem cx_gen_mixKind_bits_e : cx_gen_mixKind_bits.gs = none ∧ cx_gen_mixKind_bits.md = 0 ∧ cx_gen_mixKind_bits.T = T ∧ cx_gen_mixKind_bits.E = E ∧ cx_gen_mixKind_bits.cs = [] ∧ ∀ d, (cx_gen_mixKind_bits.ob).contains d = false := ⟨rfl, rfl, rfl, rfl, rfl, fun _ => rfl⟩
theorem cok_gen_mixKind_bits : COk Tryz.prog (cx_gen_mixKind_bits) := cok_of rfl (.nil) (.nil) (.nil)
theorem ok_gen_mixKind_bits : Ok Tryz.prog 160 c_gen_mixKind_bits := by
  refine ok_fn1 cok_gen_mixKind_bits mixed Tryz.func160 rfl (by kernel_rfl) (by kernel_rfl) rfl ?_
  intro _ om hw _
  simp only [go_sem, Tryz.f160, kn1, kn2, kn3, kn4, kn5, kn6, kn7, kn8, kn9, kz1, kz2, kz3, kz4, kz5, kz6, kz7, kz8, kz9, kz0, reduceCtorEq, String.reduceEq, kn0, kq1, kq2, kq3, kq4, Int.toNat_natCast]
@[go_sem] noncomputable def c_gen_xoshKind_bits : Cn := fn1 tE (fun _ => True) fun _ => .z 127
noncomputable def cx_gen_xoshKind_bits : Cx := { T := T, E := E, cs := [], sch := [], ob := [], qs := [] }
@[go_sem] theorem cx_gen_xoshKind_bits_e : cx_gen_xoshKind_bits.gs = none ∧ cx_gen_xoshKind_bits.md = 0 ∧ cx_gen_xoshKind_bits.T = T ∧ cx_gen_xoshKind_bits.E = E ∧ cx_gen_xoshKind_bits.cs = [] ∧ ∀ d, (cx_gen_xoshKind_bits.ob).contains d = false := ⟨rfl, rfl, rfl, rfl, rfl, fun _ => rfl⟩
theorem cok_gen_xoshKind_bits : COk Tryz.prog (cx_gen_xoshKind_bits) := cok_of rfl (.nil) (.nil) (.nil)
theorem ok_gen_xoshKind_bits : Ok Tryz.prog 173 c_gen_xoshKind_bits := by
  refine ok_fn1 cok_gen_xoshKind_bits mixed Tryz.func173 rfl (by kernel_rfl) (by kernel_rfl) rfl ?_
  intro _ om hw _
  simp only [go_sem, Tryz.f173, kn1, kn2, kn3, kn4, kn5, kn6, kn7, kn8, kn9, kz1, kz2, kz3, kz4, kz5, kz6, kz7, kz8, kz9, kz0, reduceCtorEq, String.reduceEq, kn0, kq1, kq2, kq3, kq4, Int.toNat_natCast]
@[go_sem] noncomputable def c_gen_pcgKind_bits : Cn := fn1 tE (fun _ => True) fun _ => .z 127
noncomputable def cx_gen_pcgKind_bits : Cx := { T := T, E := E, cs := [], sch := [], ob := [], qs := [] }
@[go_sem] theorem cx_gen_pcgKind_bits_e : cx_gen_pcgKind_bits.gs = none ∧ cx_gen_pcgKind_bits.md = 0 ∧ cx_gen_pcgKind_bits.T = T ∧ cx_gen_pcgKind_bits.E = E ∧ cx_gen_pcgKind_bits.cs = [] ∧ ∀ d, (cx_gen_pcgKind_bits.ob).contains d = false := ⟨rfl, rfl, rfl, rfl, rfl, fun _ => rfl⟩
theorem cok_gen_pcgKind_bits : COk Tryz.prog (cx_gen_pcgKind_bits) := cok_of rfl (.nil) (.nil) (.nil)
theorem ok_gen_pcgKind_bits : Ok Tryz.prog 221 c_gen_pcgKind_bits := by
  refine ok_fn1 cok_gen_pcgKind_bits mixed Tryz.func221 rfl (by kernel_rfl) (by kernel_rfl) rfl ?_
  intro _ om hw _
  simp only [go_sem, Tryz.f221, kn1, kn2, kn3, kn4, kn5, kn6, kn7, kn8, kn9, kz1, kz2, kz3, kz4, kz5, kz6, kz7, kz8, kz9, kz0, reduceCtorEq, String.reduceEq, kn0, kq1, kq2, kq3, kq4, Int.toNat_natCast]
@[go_sem] noncomputable def c_gen_philoxKind_bits : Cn := fn1 tE (fun _ => True) fun _ => .z 127
noncomputable def cx_gen_philoxKind_bits : Cx := { T := T, E := E, cs := [], sch := [], ob := [], qs := [] }
@[go_sem] theorem cx_gen_philoxKind_bits_e : cx_gen_philoxKind_bits.gs = none ∧ cx_gen_philoxKind_bits.md = 0 ∧ cx_gen_philoxKind_bits.T = T ∧ cx_gen_philoxKind_bits.E = E ∧ cx_gen_philoxKind_bits.cs = [] ∧ ∀ d, (cx_gen_philoxKind_bits.ob).contains d = false := ⟨rfl, rfl, rfl, rfl, rfl, fun _ => rfl⟩
theorem cok_gen_philoxKind_bits : COk Tryz.prog (cx_gen_philoxKind_bits) := cok_of rfl (.nil) (.nil) (.nil)
theorem ok_gen_philoxKind_bits : Ok Tryz.prog 239 c_gen_philoxKind_bits := by
  refine ok_fn1 cok_gen_philoxKind_bits mixed Tryz.func239 rfl (by kernel_rfl) (by kernel_rfl) rfl ?_
  intro _ om hw _
  simp only [go_sem, Tryz.f239, kn1, kn2, kn3, kn4, kn5, kn6, kn7, kn8, kn9, kz1, kz2, kz3, kz4, kz5, kz6, kz7, kz8, kz9, kz0, reduceCtorEq, String.reduceEq, kn0, kq1, kq2, kq3, kq4, Int.toNat_natCast]
@[go_sem] noncomputable def c_gen_mixKind_right : Cn := fn2 tE tG (fun _ _ => True) fun _ _ => .b true
noncomputable def cx_gen_mixKind_right : Cx := { T := T, E := E, cs := [], sch := [], ob := [], qs := [] }
@[go_sem] theorem cx_gen_mixKind_right_e : cx_gen_mixKind_right.gs = none ∧ cx_gen_mixKind_right.md = 0 ∧ cx_gen_mixKind_right.T = T ∧ cx_gen_mixKind_right.E = E ∧ cx_gen_mixKind_right.cs = [] ∧ ∀ d, (cx_gen_mixKind_right.ob).contains d = false := ⟨rfl, rfl, rfl, rfl, rfl, fun _ => rfl⟩
theorem cok_gen_mixKind_right : COk Tryz.prog (cx_gen_mixKind_right) := cok_of rfl (.nil) (.nil) (.nil)
theorem ok_gen_mixKind_right : Ok Tryz.prog 163 c_gen_mixKind_right := by
  refine ok_fn2 cok_gen_mixKind_right mixed Tryz.func163 rfl (by kernel_rfl) (by kernel_rfl) rfl ?_
  intro _ s om hw _
  simp only [go_sem, Tryz.f163, kn1, kn2, kn3, kn4, kn5, kn6, kn7, kn8, kn9, kz1, kz2, kz3, kz4, kz5, kz6, kz7, kz8, kz9, kz0, reduceCtorEq, String.reduceEq, kn0, kq1, kq2, kq3, kq4, Int.toNat_natCast]
@[go_sem] noncomputable def c_gen_xoshKind_right : Cn := fn2 tE tG (fun _ _ => True) fun _ s => .b (decide (s.x ≠ x0))
noncomputable def cx_gen_xoshKind_right : Cx := { T := T, E := E, cs := [(182, c_xosh_Right)], sch := [], ob := [], qs := [182] }
@[go_sem] theorem cx_gen_xoshKind_right_e : cx_gen_xoshKind_right.gs = none ∧ cx_gen_xoshKind_right.md = 0 ∧ cx_gen_xoshKind_right.T = T ∧ cx_gen_xoshKind_right.E = E ∧ cx_gen_xoshKind_right.cs = [(182, c_xosh_Right)] ∧ ∀ d, (cx_gen_xoshKind_right.ob).contains d = false := ⟨rfl, rfl, rfl, rfl, rfl, fun _ => rfl⟩
theorem cok_gen_xoshKind_right : COk Tryz.prog (cx_gen_xoshKind_right) := cok_of rfl (.cons ok_xosh_Right (.nil)) (.cons (fun _ => fn1_quiet) (.nil)) (.nil)
theorem ok_gen_xoshKind_right : Ok Tryz.prog 176 c_gen_xoshKind_right := by
  refine ok_fn2 cok_gen_xoshKind_right mixed Tryz.func176 rfl (by kernel_rfl) (by kernel_rfl) rfl ?_
  intro _ s om hw _
  simp only [go_sem, Tryz.f176, kn1, kn2, kn3, kn4, kn5, kn6, kn7, kn8, kn9, kz1, kz2, kz3, kz4, kz5, kz6, kz7, kz8, kz9, kz0, reduceCtorEq, String.reduceEq, kn0, kq1, kq2, kq3, kq4, Int.toNat_natCast]
@[go_sem] noncomputable def c_gen_pcgKind_right : Cn := fn2 tE tG (fun _ _ => True) fun _ s => .b (decide (s.p.b % 2 = 1))
noncomputable def cx_gen_pcgKind_right : Cx := { T := T, E := E, cs := [(230, c_pcg_Right)], sch := [], ob := [], qs := [230] }
@[go_sem] theorem cx_gen_pcgKind_right_e : cx_gen_pcgKind_right.gs = none ∧ cx_gen_pcgKind_right.md = 0 ∧ cx_gen_pcgKind_right.T = T ∧ cx_gen_pcgKind_right.E = E ∧ cx_gen_pcgKind_right.cs = [(230, c_pcg_Right)] ∧ ∀ d, (cx_gen_pcgKind_right.ob).contains d = false := ⟨rfl, rfl, rfl, rfl, rfl, fun _ => rfl⟩
theorem cok_gen_pcgKind_right : COk Tryz.prog (cx_gen_pcgKind_right) := cok_of rfl (.cons ok_pcg_Right (.nil)) (.cons (fun _ => fn1_quiet) (.nil)) (.nil)
theorem ok_gen_pcgKind_right : Ok Tryz.prog 224 c_gen_pcgKind_right := by
  refine ok_fn2 cok_gen_pcgKind_right mixed Tryz.func224 rfl (by kernel_rfl) (by kernel_rfl) rfl ?_
  intro _ s om hw _
  simp only [go_sem, Tryz.f224, kn1, kn2, kn3, kn4, kn5, kn6, kn7, kn8, kn9, kz1, kz2, kz3, kz4, kz5, kz6, kz7, kz8, kz9, kz0, reduceCtorEq, String.reduceEq, kn0, kq1, kq2, kq3, kq4, Int.toNat_natCast]
@[go_sem] noncomputable def c_gen_philoxKind_right : Cn := fn2 tE tG (fun _ _ => True) fun _ _ => .b true
noncomputable def cx_gen_philoxKind_right : Cx := { T := T, E := E, cs := [], sch := [], ob := [], qs := [] }
@[go_sem] theorem cx_gen_philoxKind_right_e : cx_gen_philoxKind_right.gs = none ∧ cx_gen_philoxKind_right.md = 0 ∧ cx_gen_philoxKind_right.T = T ∧ cx_gen_philoxKind_right.E = E ∧ cx_gen_philoxKind_right.cs = [] ∧ ∀ d, (cx_gen_philoxKind_right.ob).contains d = false := ⟨rfl, rfl, rfl, rfl, rfl, fun _ => rfl⟩
theorem cok_gen_philoxKind_right : COk Tryz.prog (cx_gen_philoxKind_right) := cok_of rfl (.nil) (.nil) (.nil)
theorem ok_gen_philoxKind_right : Ok Tryz.prog 242 c_gen_philoxKind_right := by
  refine ok_fn2 cok_gen_philoxKind_right mixed Tryz.func242 rfl (by kernel_rfl) (by kernel_rfl) rfl ?_
  intro _ s om hw _
  simp only [go_sem, Tryz.f242, kn1, kn2, kn3, kn4, kn5, kn6, kn7, kn8, kn9, kz1, kz2, kz3, kz4, kz5, kz6, kz7, kz8, kz9, kz0, reduceCtorEq, String.reduceEq, kn0, kq1, kq2, kq3, kq4, Int.toNat_natCast]
def g1 (m : Nat) : GS := ⟨1, m, x0, d0, h0⟩
def g2 (x : X4) : GS := ⟨2, 0, x, d0, h0⟩
def g3 (p : D2) : GS := ⟨3, 0, x0, p, h0⟩
def g4 (f : HS) : GS := ⟨4, 0, x0, d0, f⟩
def gz : GS := ⟨0, 0, x0, d0, h0⟩
@[go_sem] noncomputable def c_gen_mixKind_alone : Cn := fn2 tE tG (fun _ _ => True) fun _ s => vG (g1 s.mix)
noncomputable def cx_gen_mixKind_alone : Cx := { T := T, E := E, cs := [], sch := [], ob := [], qs := [] }
@[go_sem] theorem cx_gen_mixKind_alone_e : cx_gen_mixKind_alone.gs = none ∧ cx_gen_mixKind_alone.md = 0 ∧ cx_gen_mixKind_alone.T = T ∧ cx_gen_mixKind_alone.E = E ∧ cx_gen_mixKind_alone.cs = [] ∧ ∀ d, (cx_gen_mixKind_alone.ob).contains d = false := ⟨rfl, rfl, rfl, rfl, rfl, fun _ => rfl⟩
theorem cok_gen_mixKind_alone : COk Tryz.prog (cx_gen_mixKind_alone) := cok_of rfl (.nil) (.nil) (.nil)
theorem ok_gen_mixKind_alone : Ok Tryz.prog 159 c_gen_mixKind_alone := by
  refine ok_fn2 cok_gen_mixKind_alone mixed Tryz.func159 rfl (by kernel_rfl) (by kernel_rfl) rfl ?_
  intro _ s om hw _
  simp only [go_sem, Tryz.f159, kn1, kn2, kn3, kn4, kn5, kn6, kn7, kn8, kn9, kz1, kz2, kz3, kz4, kz5, kz6, kz7, kz8, kz9, kz0, reduceCtorEq, String.reduceEq, kn0, kq1, kq2, kq3, kq4, Int.toNat_natCast, g1, x0, d0, h0, k0]
@[go_sem] noncomputable def c_gen_xoshKind_alone : Cn := fn2 tE tG (fun _ _ => True) fun _ s => vG (g2 s.x)
noncomputable def cx_gen_xoshKind_alone : Cx := { T := T, E := E, cs := [], sch := [], ob := [], qs := [] }
@[go_sem] theorem cx_gen_xoshKind_alone_e : cx_gen_xoshKind_alone.gs = none ∧ cx_gen_xoshKind_alone.md = 0 ∧ cx_gen_xoshKind_alone.T = T ∧ cx_gen_xoshKind_alone.E = E ∧ cx_gen_xoshKind_alone.cs = [] ∧ ∀ d, (cx_gen_xoshKind_alone.ob).contains d = false := ⟨rfl, rfl, rfl, rfl, rfl, fun _ => rfl⟩
theorem cok_gen_xoshKind_alone : COk Tryz.prog (cx_gen_xoshKind_alone) := cok_of rfl (.nil) (.nil) (.nil)
theorem ok_gen_xoshKind_alone : Ok Tryz.prog 172 c_gen_xoshKind_alone := by
  refine ok_fn2 cok_gen_xoshKind_alone mixed Tryz.func172 rfl (by kernel_rfl) (by kernel_rfl) rfl ?_
  intro _ s om hw _
  simp only [go_sem, Tryz.f172, kn1, kn2, kn3, kn4, kn5, kn6, kn7, kn8, kn9, kz1, kz2, kz3, kz4, kz5, kz6, kz7, kz8, kz9, kz0, reduceCtorEq, String.reduceEq, kn0, kq1, kq2, kq3, kq4, Int.toNat_natCast, g2, x0, d0, h0, k0]
@[go_sem] noncomputable def c_gen_pcgKind_alone : Cn := fn2 tE tG (fun _ _ => True) fun _ s => vG (g3 s.p)
noncomputable def cx_gen_pcgKind_alone : Cx := { T := T, E := E, cs := [], sch := [], ob := [], qs := [] }
@[go_sem] theorem cx_gen_pcgKind_alone_e : cx_gen_pcgKind_alone.gs = none ∧ cx_gen_pcgKind_alone.md = 0 ∧ cx_gen_pcgKind_alone.T = T ∧ cx_gen_pcgKind_alone.E = E ∧ cx_gen_pcgKind_alone.cs = [] ∧ ∀ d, (cx_gen_pcgKind_alone.ob).contains d = false := ⟨rfl, rfl, rfl, rfl, rfl, fun _ => rfl⟩
theorem cok_gen_pcgKind_alone : COk Tryz.prog (cx_gen_pcgKind_alone) := cok_of rfl (.nil) (.nil) (.nil)
theorem ok_gen_pcgKind_alone : Ok Tryz.prog 220 c_gen_pcgKind_alone := by
  refine ok_fn2 cok_gen_pcgKind_alone mixed Tryz.func220 rfl (by kernel_rfl) (by kernel_rfl) rfl ?_
  intro _ s om hw _
  simp only [go_sem, Tryz.f220, kn1, kn2, kn3, kn4, kn5, kn6, kn7, kn8, kn9, kz1, kz2, kz3, kz4, kz5, kz6, kz7, kz8, kz9, kz0, reduceCtorEq, String.reduceEq, kn0, kq1, kq2, kq3, kq4, Int.toNat_natCast, g3, x0, d0, h0, k0]
@[go_sem] noncomputable def c_gen_philoxKind_alone : Cn := fn2 tE tG (fun _ _ => True) fun _ s => vG (g4 s.f)
noncomputable def cx_gen_philoxKind_alone : Cx := { T := T, E := E, cs := [], sch := [], ob := [], qs := [] }
@[go_sem] theorem cx_gen_philoxKind_alone_e : cx_gen_philoxKind_alone.gs = none ∧ cx_gen_philoxKind_alone.md = 0 ∧ cx_gen_philoxKind_alone.T = T ∧ cx_gen_philoxKind_alone.E = E ∧ cx_gen_philoxKind_alone.cs = [] ∧ ∀ d, (cx_gen_philoxKind_alone.ob).contains d = false := ⟨rfl, rfl, rfl, rfl, rfl, fun _ => rfl⟩
theorem cok_gen_philoxKind_alone : COk Tryz.prog (cx_gen_philoxKind_alone) := cok_of rfl (.nil) (.nil) (.nil)
theorem ok_gen_philoxKind_alone : Ok Tryz.prog 238 c_gen_philoxKind_alone := by
  refine ok_fn2 cok_gen_philoxKind_alone mixed Tryz.func238 rfl (by kernel_rfl) (by kernel_rfl) rfl ?_
  intro _ s om hw _
  simp only [go_sem, Tryz.f238, kn1, kn2, kn3, kn4, kn5, kn6, kn7, kn8, kn9, kz1, kz2, kz3, kz4, kz5, kz6, kz7, kz8, kz9, kz0, reduceCtorEq, String.reduceEq, kn0, kq1, kq2, kq3, kq4, Int.toNat_natCast, g4, x0, d0, h0, k0]
@[go_sem] noncomputable def c_gen_mixKind_word : Cn := fn2 tE tG (fun _ _ => True) fun _ s => .n .u64 (mword s.mix)
noncomputable def cx_gen_mixKind_word : Cx := { T := T, E := E, cs := [(128, c_mix_Word)], sch := [], ob := [], qs := [128] }
@[go_sem] theorem cx_gen_mixKind_word_e : cx_gen_mixKind_word.gs = none ∧ cx_gen_mixKind_word.md = 0 ∧ cx_gen_mixKind_word.T = T ∧ cx_gen_mixKind_word.E = E ∧ cx_gen_mixKind_word.cs = [(128, c_mix_Word)] ∧ ∀ d, (cx_gen_mixKind_word.ob).contains d = false := ⟨rfl, rfl, rfl, rfl, rfl, fun _ => rfl⟩
theorem cok_gen_mixKind_word : COk Tryz.prog (cx_gen_mixKind_word) := cok_of rfl (.cons ok_mix_Word (.nil)) (.cons (fun _ => fn1_quiet) (.nil)) (.nil)
theorem ok_gen_mixKind_word : Ok Tryz.prog 167 c_gen_mixKind_word := by
  refine ok_fn2 cok_gen_mixKind_word mixed Tryz.func167 rfl (by kernel_rfl) (by kernel_rfl) rfl ?_
  intro _ s om hw _
  simp only [go_sem, Tryz.f167, kn1, kn2, kn3, kn4, kn5, kn6, kn7, kn8, kn9, kz1, kz2, kz3, kz4, kz5, kz6, kz7, kz8, kz9, kz0, reduceCtorEq, String.reduceEq, kn0, kq1, kq2, kq3, kq4, Int.toNat_natCast]
@[go_sem] noncomputable def c_gen_xoshKind_word : Cn := fn2 tE tG (fun _ _ => True) fun _ s => .n .u64 (xword s.x)
noncomputable def cx_gen_xoshKind_word : Cx := { T := T, E := E, cs := [(184, c_xosh_Word)], sch := [], ob := [], qs := [184] }
@[go_sem] theorem cx_gen_xoshKind_word_e : cx_gen_xoshKind_word.gs = none ∧ cx_gen_xoshKind_word.md = 0 ∧ cx_gen_xoshKind_word.T = T ∧ cx_gen_xoshKind_word.E = E ∧ cx_gen_xoshKind_word.cs = [(184, c_xosh_Word)] ∧ ∀ d, (cx_gen_xoshKind_word.ob).contains d = false := ⟨rfl, rfl, rfl, rfl, rfl, fun _ => rfl⟩
theorem cok_gen_xoshKind_word : COk Tryz.prog (cx_gen_xoshKind_word) := cok_of rfl (.cons ok_xosh_Word (.nil)) (.cons (fun _ => fn1_quiet) (.nil)) (.nil)
theorem ok_gen_xoshKind_word : Ok Tryz.prog 180 c_gen_xoshKind_word := by
  refine ok_fn2 cok_gen_xoshKind_word mixed Tryz.func180 rfl (by kernel_rfl) (by kernel_rfl) rfl ?_
  intro _ s om hw _
  simp only [go_sem, Tryz.f180, kn1, kn2, kn3, kn4, kn5, kn6, kn7, kn8, kn9, kz1, kz2, kz3, kz4, kz5, kz6, kz7, kz8, kz9, kz0, reduceCtorEq, String.reduceEq, kn0, kq1, kq2, kq3, kq4, Int.toNat_natCast]
@[go_sem] noncomputable def c_gen_pcgKind_word : Cn := fn2 tE tG (fun _ _ => True) fun _ s => .n .u64 (pcgW s.p)
noncomputable def cx_gen_pcgKind_word : Cx := { T := T, E := E, cs := [(232, c_pcg_Word)], sch := [], ob := [], qs := [232] }
@[go_sem] theorem cx_gen_pcgKind_word_e : cx_gen_pcgKind_word.gs = none ∧ cx_gen_pcgKind_word.md = 0 ∧ cx_gen_pcgKind_word.T = T ∧ cx_gen_pcgKind_word.E = E ∧ cx_gen_pcgKind_word.cs = [(232, c_pcg_Word)] ∧ ∀ d, (cx_gen_pcgKind_word.ob).contains d = false := ⟨rfl, rfl, rfl, rfl, rfl, fun _ => rfl⟩
theorem cok_gen_pcgKind_word : COk Tryz.prog (cx_gen_pcgKind_word) := cok_of rfl (.cons ok_pcg_Word (.nil)) (.cons (fun _ => fn1_quiet) (.nil)) (.nil)
theorem ok_gen_pcgKind_word : Ok Tryz.prog 228 c_gen_pcgKind_word := by
  refine ok_fn2 cok_gen_pcgKind_word mixed Tryz.func228 rfl (by kernel_rfl) (by kernel_rfl) rfl ?_
  intro _ s om hw _
  simp only [go_sem, Tryz.f228, kn1, kn2, kn3, kn4, kn5, kn6, kn7, kn8, kn9, kz1, kz2, kz3, kz4, kz5, kz6, kz7, kz8, kz9, kz0, reduceCtorEq, String.reduceEq, kn0, kq1, kq2, kq3, kq4, Int.toNat_natCast]
@[go_sem] noncomputable def c_gen_philoxKind_word : Cn := fn2 tE tG (fun _ _ => True) fun _ s => .n .u64 (hword s.f)
noncomputable def cx_gen_philoxKind_word : Cx := { T := T, E := E, cs := [(249, c_half_Word)], sch := [], ob := [], qs := [249] }
@[go_sem] theorem cx_gen_philoxKind_word_e : cx_gen_philoxKind_word.gs = none ∧ cx_gen_philoxKind_word.md = 0 ∧ cx_gen_philoxKind_word.T = T ∧ cx_gen_philoxKind_word.E = E ∧ cx_gen_philoxKind_word.cs = [(249, c_half_Word)] ∧ ∀ d, (cx_gen_philoxKind_word.ob).contains d = false := ⟨rfl, rfl, rfl, rfl, rfl, fun _ => rfl⟩
theorem cok_gen_philoxKind_word : COk Tryz.prog (cx_gen_philoxKind_word) := cok_of rfl (.cons ok_half_Word (.nil)) (.cons (fun _ => fn1_quiet) (.nil)) (.nil)
theorem ok_gen_philoxKind_word : Ok Tryz.prog 246 c_gen_philoxKind_word := by
  refine ok_fn2 cok_gen_philoxKind_word mixed Tryz.func246 rfl (by kernel_rfl) (by kernel_rfl) rfl ?_
  intro _ s om hw _
  simp only [go_sem, Tryz.f246, kn1, kn2, kn3, kn4, kn5, kn6, kn7, kn8, kn9, kz1, kz2, kz3, kz4, kz5, kz6, kz7, kz8, kz9, kz0, reduceCtorEq, String.reduceEq, kn0, kq1, kq2, kq3, kq4, Int.toNat_natCast]
@[go_sem] noncomputable def c_gen_mixKind_step : Cn := fn2 tE tG (fun _ _ => True) fun _ s => vG (g1 (mstep s.mix))
noncomputable def cx_gen_mixKind_step : Cx := { T := T, E := E, cs := [(129, c_mix_Step)], sch := [], ob := [], qs := [129] }
@[go_sem] theorem cx_gen_mixKind_step_e : cx_gen_mixKind_step.gs = none ∧ cx_gen_mixKind_step.md = 0 ∧ cx_gen_mixKind_step.T = T ∧ cx_gen_mixKind_step.E = E ∧ cx_gen_mixKind_step.cs = [(129, c_mix_Step)] ∧ ∀ d, (cx_gen_mixKind_step.ob).contains d = false := ⟨rfl, rfl, rfl, rfl, rfl, fun _ => rfl⟩
theorem cok_gen_mixKind_step : COk Tryz.prog (cx_gen_mixKind_step) := cok_of rfl (.cons ok_mix_Step (.nil)) (.cons (fun _ => fn1_quiet) (.nil)) (.nil)
theorem ok_gen_mixKind_step : Ok Tryz.prog 165 c_gen_mixKind_step := by
  refine ok_fn2 cok_gen_mixKind_step mixed Tryz.func165 rfl (by kernel_rfl) (by kernel_rfl) rfl ?_
  intro _ s om hw _
  simp only [go_sem, Tryz.f165, kn1, kn2, kn3, kn4, kn5, kn6, kn7, kn8, kn9, kz1, kz2, kz3, kz4, kz5, kz6, kz7, kz8, kz9, kz0, reduceCtorEq, String.reduceEq, kn0, kq1, kq2, kq3, kq4, Int.toNat_natCast, g1, x0, d0, h0, k0]
@[go_sem] noncomputable def c_gen_xoshKind_step : Cn := fn2 tE tG (fun _ _ => True) fun _ s => vG (g2 (xstep s.x))
noncomputable def cx_gen_xoshKind_step : Cx := { T := T, E := E, cs := [(183, c_xosh_Step)], sch := [], ob := [], qs := [183] }
@[go_sem] theorem cx_gen_xoshKind_step_e : cx_gen_xoshKind_step.gs = none ∧ cx_gen_xoshKind_step.md = 0 ∧ cx_gen_xoshKind_step.T = T ∧ cx_gen_xoshKind_step.E = E ∧ cx_gen_xoshKind_step.cs = [(183, c_xosh_Step)] ∧ ∀ d, (cx_gen_xoshKind_step.ob).contains d = false := ⟨rfl, rfl, rfl, rfl, rfl, fun _ => rfl⟩
theorem cok_gen_xoshKind_step : COk Tryz.prog (cx_gen_xoshKind_step) := cok_of rfl (.cons ok_xosh_Step (.nil)) (.cons (fun _ => fn1_quiet) (.nil)) (.nil)
theorem ok_gen_xoshKind_step : Ok Tryz.prog 178 c_gen_xoshKind_step := by
  refine ok_fn2 cok_gen_xoshKind_step mixed Tryz.func178 rfl (by kernel_rfl) (by kernel_rfl) rfl ?_
  intro _ s om hw _
  simp only [go_sem, Tryz.f178, kn1, kn2, kn3, kn4, kn5, kn6, kn7, kn8, kn9, kz1, kz2, kz3, kz4, kz5, kz6, kz7, kz8, kz9, kz0, reduceCtorEq, String.reduceEq, kn0, kq1, kq2, kq3, kq4, Int.toNat_natCast, g2, x0, d0, h0, k0]
@[go_sem] noncomputable def c_gen_pcgKind_step : Cn := fn2 tE tG (fun _ _ => True) fun _ s => vG (g3 (pcgS s.p))
noncomputable def cx_gen_pcgKind_step : Cx := { T := T, E := E, cs := [(231, c_pcg_Step)], sch := [], ob := [], qs := [231] }
@[go_sem] theorem cx_gen_pcgKind_step_e : cx_gen_pcgKind_step.gs = none ∧ cx_gen_pcgKind_step.md = 0 ∧ cx_gen_pcgKind_step.T = T ∧ cx_gen_pcgKind_step.E = E ∧ cx_gen_pcgKind_step.cs = [(231, c_pcg_Step)] ∧ ∀ d, (cx_gen_pcgKind_step.ob).contains d = false := ⟨rfl, rfl, rfl, rfl, rfl, fun _ => rfl⟩
theorem cok_gen_pcgKind_step : COk Tryz.prog (cx_gen_pcgKind_step) := cok_of rfl (.cons ok_pcg_Step (.nil)) (.cons (fun _ => fn1_quiet) (.nil)) (.nil)
theorem ok_gen_pcgKind_step : Ok Tryz.prog 226 c_gen_pcgKind_step := by
  refine ok_fn2 cok_gen_pcgKind_step mixed Tryz.func226 rfl (by kernel_rfl) (by kernel_rfl) rfl ?_
  intro _ s om hw _
  simp only [go_sem, Tryz.f226, kn1, kn2, kn3, kn4, kn5, kn6, kn7, kn8, kn9, kz1, kz2, kz3, kz4, kz5, kz6, kz7, kz8, kz9, kz0, reduceCtorEq, String.reduceEq, kn0, kq1, kq2, kq3, kq4, Int.toNat_natCast, g3, x0, d0, h0, k0]
@[go_sem] noncomputable def c_gen_philoxKind_step : Cn := fn2 tE tG (fun _ _ => True) fun _ s => vG (g4 (hstep s.f))
noncomputable def cx_gen_philoxKind_step : Cx := { T := T, E := E, cs := [(248, c_half_Step)], sch := [], ob := [], qs := [248] }
@[go_sem] theorem cx_gen_philoxKind_step_e : cx_gen_philoxKind_step.gs = none ∧ cx_gen_philoxKind_step.md = 0 ∧ cx_gen_philoxKind_step.T = T ∧ cx_gen_philoxKind_step.E = E ∧ cx_gen_philoxKind_step.cs = [(248, c_half_Step)] ∧ ∀ d, (cx_gen_philoxKind_step.ob).contains d = false := ⟨rfl, rfl, rfl, rfl, rfl, fun _ => rfl⟩
theorem cok_gen_philoxKind_step : COk Tryz.prog (cx_gen_philoxKind_step) := cok_of rfl (.cons ok_half_Step (.nil)) (.cons (fun _ => fn1_quiet) (.nil)) (.nil)
theorem ok_gen_philoxKind_step : Ok Tryz.prog 244 c_gen_philoxKind_step := by
  refine ok_fn2 cok_gen_philoxKind_step mixed Tryz.func244 rfl (by kernel_rfl) (by kernel_rfl) rfl ?_
  intro _ s om hw _
  simp only [go_sem, Tryz.f244, kn1, kn2, kn3, kn4, kn5, kn6, kn7, kn8, kn9, kz1, kz2, kz3, kz4, kz5, kz6, kz7, kz8, kz9, kz0, reduceCtorEq, String.reduceEq, kn0, kq1, kq2, kq3, kq4, Int.toNat_natCast, g4, x0, d0, h0, k0]
@[go_sem] noncomputable def c_gen_mixKind_jump : Cn := fn3 tE tG tW (fun _ _ _ => True) fun _ s n => vG (g1 (mjump s.mix n))
noncomputable def cx_gen_mixKind_jump : Cx := { T := T, E := E, cs := [(168, c_mix_Jump)], sch := [], ob := [], qs := [168] }
@[go_sem] theorem cx_gen_mixKind_jump_e : cx_gen_mixKind_jump.gs = none ∧ cx_gen_mixKind_jump.md = 0 ∧ cx_gen_mixKind_jump.T = T ∧ cx_gen_mixKind_jump.E = E ∧ cx_gen_mixKind_jump.cs = [(168, c_mix_Jump)] ∧ ∀ d, (cx_gen_mixKind_jump.ob).contains d = false := ⟨rfl, rfl, rfl, rfl, rfl, fun _ => rfl⟩
theorem cok_gen_mixKind_jump : COk Tryz.prog (cx_gen_mixKind_jump) := cok_of rfl (.cons ok_mix_Jump (.nil)) (.cons (fun _ => fn2_quiet) (.nil)) (.nil)
theorem ok_gen_mixKind_jump : Ok Tryz.prog 161 c_gen_mixKind_jump := by
  refine ok_fn3 cok_gen_mixKind_jump mixed Tryz.func161 rfl (by kernel_rfl) (by kernel_rfl) rfl ?_
  intro _ s n om hw _
  simp only [go_sem, Tryz.f161, kn1, kn2, kn3, kn4, kn5, kn6, kn7, kn8, kn9, kz1, kz2, kz3, kz4, kz5, kz6, kz7, kz8, kz9, kz0, reduceCtorEq, String.reduceEq, kn0, kq1, kq2, kq3, kq4, Int.toNat_natCast, g1, x0, d0, h0, k0]
@[go_sem] noncomputable def c_gen_xoshKind_jump : Cn := fn3 tE tG tW (fun _ s _ => s.x ≠ x0) fun _ s n => vG (g2 (xst s.x n))
noncomputable def cx_gen_xoshKind_jump : Cx := { T := T, E := E, cs := [(181, c_xjump_Jump)], sch := [], ob := [], qs := [181] }
@[go_sem] theorem cx_gen_xoshKind_jump_e : cx_gen_xoshKind_jump.gs = none ∧ cx_gen_xoshKind_jump.md = 0 ∧ cx_gen_xoshKind_jump.T = T ∧ cx_gen_xoshKind_jump.E = E ∧ cx_gen_xoshKind_jump.cs = [(181, c_xjump_Jump)] ∧ ∀ d, (cx_gen_xoshKind_jump.ob).contains d = false := ⟨rfl, rfl, rfl, rfl, rfl, fun _ => rfl⟩
theorem cok_gen_xoshKind_jump : COk Tryz.prog (cx_gen_xoshKind_jump) := cok_of rfl (.cons ok_xjump_Jump (.nil)) (.cons (fun _ => fn2i_quiet) (.nil)) (.nil)
theorem ok_gen_xoshKind_jump : Ok Tryz.prog 174 c_gen_xoshKind_jump := by
  refine ok_fn3 cok_gen_xoshKind_jump mixed Tryz.func174 rfl (by kernel_rfl) (by kernel_rfl) rfl ?_
  intro _ s n om hw hp
  have hp' : (s.x = x0) = False := eq_false hp
  simp only [go_sem, Tryz.f174, kn1, kn2, kn3, kn4, kn5, kn6, kn7, kn8, kn9, kz1, kz2, kz3, kz4, kz5, kz6, kz7, kz8, kz9, kz0, reduceCtorEq, String.reduceEq, kn0, kq1, kq2, kq3, kq4, Int.toNat_natCast, hp', g2, d0, h0, k0]
@[go_sem] noncomputable def c_gen_pcgKind_jump : Cn := fn3 tE tG tW (fun _ s _ => s.p.b % 2 = 1) fun _ s n => vG (g3 (pcgJ s.p n))
noncomputable def cx_gen_pcgKind_jump : Cx := { T := T, E := E, cs := [(229, c_pcg_Jump)], sch := [], ob := [], qs := [229] }
@[go_sem] theorem cx_gen_pcgKind_jump_e : cx_gen_pcgKind_jump.gs = none ∧ cx_gen_pcgKind_jump.md = 0 ∧ cx_gen_pcgKind_jump.T = T ∧ cx_gen_pcgKind_jump.E = E ∧ cx_gen_pcgKind_jump.cs = [(229, c_pcg_Jump)] ∧ ∀ d, (cx_gen_pcgKind_jump.ob).contains d = false := ⟨rfl, rfl, rfl, rfl, rfl, fun _ => rfl⟩
theorem cok_gen_pcgKind_jump : COk Tryz.prog (cx_gen_pcgKind_jump) := cok_of rfl (.cons ok_pcg_Jump (.nil)) (.cons (fun _ => fn2i_quiet) (.nil)) (.nil)
theorem ok_gen_pcgKind_jump : Ok Tryz.prog 222 c_gen_pcgKind_jump := by
  refine ok_fn3 cok_gen_pcgKind_jump mixed Tryz.func222 rfl (by kernel_rfl) (by kernel_rfl) rfl ?_
  intro _ s n om hw hp
  simp only [go_sem, Tryz.f222, kn1, kn2, kn3, kn4, kn5, kn6, kn7, kn8, kn9, kz1, kz2, kz3, kz4, kz5, kz6, kz7, kz8, kz9, kz0, reduceCtorEq, String.reduceEq, kn0, kq1, kq2, kq3, kq4, Int.toNat_natCast, hp, g3, x0, d0, h0, k0]
@[go_sem] noncomputable def c_gen_philoxKind_jump : Cn := fn3 tE tG tW (fun _ _ _ => True) fun _ s n => vG (g4 (hjump s.f n))
noncomputable def cx_gen_philoxKind_jump : Cx := { T := T, E := E, cs := [(247, c_half_Jump)], sch := [], ob := [], qs := [247] }
@[go_sem] theorem cx_gen_philoxKind_jump_e : cx_gen_philoxKind_jump.gs = none ∧ cx_gen_philoxKind_jump.md = 0 ∧ cx_gen_philoxKind_jump.T = T ∧ cx_gen_philoxKind_jump.E = E ∧ cx_gen_philoxKind_jump.cs = [(247, c_half_Jump)] ∧ ∀ d, (cx_gen_philoxKind_jump.ob).contains d = false := ⟨rfl, rfl, rfl, rfl, rfl, fun _ => rfl⟩
theorem cok_gen_philoxKind_jump : COk Tryz.prog (cx_gen_philoxKind_jump) := cok_of rfl (.cons ok_half_Jump (.nil)) (.cons (fun _ => fn2_quiet) (.nil)) (.nil)
theorem ok_gen_philoxKind_jump : Ok Tryz.prog 240 c_gen_philoxKind_jump := by
  refine ok_fn3 cok_gen_philoxKind_jump mixed Tryz.func240 rfl (by kernel_rfl) (by kernel_rfl) rfl ?_
  intro _ s n om hw _
  simp only [go_sem, Tryz.f240, kn1, kn2, kn3, kn4, kn5, kn6, kn7, kn8, kn9, kz1, kz2, kz3, kz4, kz5, kz6, kz7, kz8, kz9, kz0, reduceCtorEq, String.reduceEq, kn0, kq1, kq2, kq3, kq4, Int.toNat_natCast, g4, x0, d0, h0, k0]
end Go.Proofs.YteomkgcepiecjaaGreat.I
