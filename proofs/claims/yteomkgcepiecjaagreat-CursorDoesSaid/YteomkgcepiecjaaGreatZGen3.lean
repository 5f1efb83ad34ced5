/- gen: Check, Word, Step, Jump, Words, Limit. -/
import Derived.Test.YteomkgcepiecjaaGreatZGen2
namespace Go.Proofs.YteomkgcepiecjaaGreat.I
open Go
open Nat renaming reduceEqDiff → kn1, reduceBEq → kn2, reducePow → kn3, reduceMod → kn4, reduceAdd → kn5, reduceSub → kn6, reduceMul → kn7, reduceDiv → kn8, reduceLeDiff → kn9, reduceLT → kn0, zero_lt_one → kq1, zero_add → kq2, zero_le → kq3, le_refl → kq4
open Int renaming reduceToNat → kz1, reduceAdd → kz2, reduceSub → kz3, reduceMul → kz4, reduceDiv → kz5, reduceMod → kz6, reduceLE → kz7, reduceLT → kz8, reduceNeg → kz9, reduceEq → kz0
set_option maxRecDepth 10000
set_option linter.unusedSimpArgs false
set_option linter.unusedVariables false
def gal (s : GS) : GS := if s.kind = 1 then g1 s.mix else if s.kind = 2 then g2 s.x else if s.kind = 3 then g3 s.p else g4 s.f
def gok (s : GS) : Prop := (1 ≤ s.kind ∧ s.kind ≤ 4) ∧ (s.kind = 2 → s.x ≠ x0) ∧ (s.kind = 3 → s.p.b % 2 = 1) ∧ gal s = s
instance (s : GS) : Decidable (gok s) := by unfold gok; infer_instance
def gchk (s : GS) : Int := if 1 ≤ s.kind ∧ s.kind ≤ 4 then if gok s then 0 else 3 else 2
theorem gchk_ok {s : GS} (h : gok s) : gchk s = 0 := by unfold gchk; rw [if_pos h.1, if_pos h]
theorem gchk_no {s : GS} (h : ¬ gok s) : gchk s ≠ 0 := by unfold gchk; split <;> simp [h]
theorem vG_iff (s t : GS) : vG s = vG t ↔ s = t := ⟨vG_inj s t, fun h => by rw [h]⟩
theorem gchk_1 (m : Nat) (x : X4) (p : D2) (f : HS) : gchk ⟨1, m, x, p, f⟩ = if g1 m = ⟨1, m, x, p, f⟩ then 0 else 3 := by simp [gchk, gok, gal]
theorem gchk_2 (m : Nat) (x : X4) (p : D2) (f : HS) : gchk ⟨2, m, x, p, f⟩ = if x ≠ x0 ∧ g2 x = ⟨2, m, x, p, f⟩ then 0 else 3 := by simp [gchk, gok, gal]
theorem gchk_3 (m : Nat) (x : X4) (p : D2) (f : HS) : gchk ⟨3, m, x, p, f⟩ = if p.b % 2 = 1 ∧ g3 p = ⟨3, m, x, p, f⟩ then 0 else 3 := by simp [gchk, gok, gal]
theorem gchk_4 (m : Nat) (x : X4) (p : D2) (f : HS) : gchk ⟨4, m, x, p, f⟩ = if g4 f = ⟨4, m, x, p, f⟩ then 0 else 3 := by simp [gchk, gok, gal]
theorem gchk_5 {k : Int} (h : ¬ (1 ≤ k ∧ k ≤ 4)) (m : Nat) (x : X4) (p : D2) (f : HS) : gchk ⟨k, m, x, p, f⟩ = 2 := by unfold gchk; rw [if_neg h]
@[go_sem] noncomputable def c_gen_Check : Cn := fn1 tG (fun _ => True) fun s => .z (gchk s)
noncomputable def cx_gen_Check : Cx := { T := T, E := E, cs := [(92, c_gen_of), (159, c_gen_mixKind_alone), (163, c_gen_mixKind_right), (172, c_gen_xoshKind_alone), (176, c_gen_xoshKind_right), (220, c_gen_pcgKind_alone), (224, c_gen_pcgKind_right), (238, c_gen_philoxKind_alone), (242, c_gen_philoxKind_right)], sch := [(4, true, .take 0 (.take 1 (.alt 2 (.take 3 (.take 4 (.take 5 (.take 6 (.take 8 (.alt 7 (.take 9 (.take 10 (.take 11 (.done)))) .no)))))) .no)))], ob := [], qs := [92, 159, 163, 172, 176, 220, 224, 238, 242], mt := [(187, "knucklebone/gen.right", 163), (188, "knucklebone/gen.right", 176), (189, "knucklebone/gen.right", 224), (190, "knucklebone/gen.right", 242), (187, "knucklebone/gen.alone", 159), (188, "knucklebone/gen.alone", 172), (189, "knucklebone/gen.alone", 220), (190, "knucklebone/gen.alone", 238)] }
@[go_sem] theorem cx_gen_Check_e : cx_gen_Check.gs = none ∧ cx_gen_Check.md = 0 ∧ cx_gen_Check.T = T ∧ cx_gen_Check.E = E ∧ cx_gen_Check.cs = [(92, c_gen_of), (159, c_gen_mixKind_alone), (163, c_gen_mixKind_right), (172, c_gen_xoshKind_alone), (176, c_gen_xoshKind_right), (220, c_gen_pcgKind_alone), (224, c_gen_pcgKind_right), (238, c_gen_philoxKind_alone), (242, c_gen_philoxKind_right)] ∧ cx_gen_Check.mt = [(187, "knucklebone/gen.right", 163), (188, "knucklebone/gen.right", 176), (189, "knucklebone/gen.right", 224), (190, "knucklebone/gen.right", 242), (187, "knucklebone/gen.alone", 159), (188, "knucklebone/gen.alone", 172), (189, "knucklebone/gen.alone", 220), (190, "knucklebone/gen.alone", 238)] ∧ cx_gen_Check.sch = [(4, true, .take 0 (.take 1 (.alt 2 (.take 3 (.take 4 (.take 5 (.take 6 (.take 8 (.alt 7 (.take 9 (.take 10 (.take 11 (.done)))) .no)))))) .no)))] ∧ ∀ d, (cx_gen_Check.ob).contains d = false := ⟨rfl, rfl, rfl, rfl, rfl, rfl, rfl, fun _ => rfl⟩
theorem cok_gen_Check : COk Tryz.prog (cx_gen_Check) := cok_of rfl (.cons ok_gen_of (.cons ok_gen_mixKind_alone (.cons ok_gen_mixKind_right (.cons ok_gen_xoshKind_alone (.cons ok_gen_xoshKind_right (.cons ok_gen_pcgKind_alone (.cons ok_gen_pcgKind_right (.cons ok_gen_philoxKind_alone (.cons ok_gen_philoxKind_right (.nil)))))))))) (.cons (fun _ => fn1_quiet) (.cons (fun _ => fn2_quiet) (.cons (fun _ => fn2_quiet) (.cons (fun _ => fn2_quiet) (.cons (fun _ => fn2_quiet) (.cons (fun _ => fn2_quiet) (.cons (fun _ => fn2_quiet) (.cons (fun _ => fn2_quiet) (.cons (fun _ => fn2_quiet) (.nil)))))))))) (.nil) rfl (.cons (mtOk_in (inf := Tryz.t187) Tryz.type187 (by kernel_rfl) Tryz.underlying187 (by intro e; exact nofun)) (.cons (mtOk_in (inf := Tryz.t188) Tryz.type188 (by kernel_rfl) Tryz.underlying188 (by intro e; exact nofun)) (.cons (mtOk_in (inf := Tryz.t189) Tryz.type189 (by kernel_rfl) Tryz.underlying189 (by intro e; exact nofun)) (.cons (mtOk_in (inf := Tryz.t190) Tryz.type190 (by kernel_rfl) Tryz.underlying190 (by intro e; exact nofun)) (.cons (mtOk_in (inf := Tryz.t187) Tryz.type187 (by kernel_rfl) Tryz.underlying187 (by intro e; exact nofun)) (.cons (mtOk_in (inf := Tryz.t188) Tryz.type188 (by kernel_rfl) Tryz.underlying188 (by intro e; exact nofun)) (.cons (mtOk_in (inf := Tryz.t189) Tryz.type189 (by kernel_rfl) Tryz.underlying189 (by intro e; exact nofun)) (.cons (mtOk_in (inf := Tryz.t190) Tryz.type190 (by kernel_rfl) Tryz.underlying190 (by intro e; exact nofun)) (.nil)))))))))
theorem ok_gen_Check : Ok Tryz.prog 109 c_gen_Check := by
  refine ok_fn1 cok_gen_Check mixed Tryz.func109 rfl (by kernel_rfl) (by kernel_rfl) rfl ?_
  intro s om hw _
  obtain ⟨k, m, x, p, f⟩ := s
  by_cases hk : 1 ≤ k ∧ k ≤ 4
  · obtain rfl | rfl | rfl | rfl : k = 1 ∨ k = 2 ∨ k = 3 ∨ k = 4 := by omega
    · have e := vG_iff (g1 m) ⟨1, m, x, p, f⟩
      simp only [vG_eq, V.agg.injEq, List.cons.injEq, V.z.injEq, V.n.injEq, V.b.injEq, true_and, and_true] at e
      simp only [go_sem, Tryz.f109, kn1, kn2, kn3, kn4, kn5, kn6, kn7, kn8, kn9, kz1, kz2, kz3, kz4, kz5, kz6, kz7, kz8, kz9, kz0, reduceCtorEq, String.reduceEq, kn0, kq1, kq2, kq3, kq4, Int.toNat_natCast, c_gen_mixKind_right, c_gen_mixKind_alone, e, gchk_1]
      exact fun _ => ⟨fun h => by rw [if_pos h], fun h => by rw [if_neg h]⟩
    · have e := vG_iff (g2 x) ⟨2, m, x, p, f⟩
      simp only [vG_eq, V.agg.injEq, List.cons.injEq, V.z.injEq, V.n.injEq, V.b.injEq, true_and, and_true] at e
      simp only [go_sem, Tryz.f109, kn1, kn2, kn3, kn4, kn5, kn6, kn7, kn8, kn9, kz1, kz2, kz3, kz4, kz5, kz6, kz7, kz8, kz9, kz0, reduceCtorEq, String.reduceEq, kn0, kq1, kq2, kq3, kq4, Int.toNat_natCast, c_gen_xoshKind_right, c_gen_xoshKind_alone, e, gchk_2]
      exact ⟨fun h0 _ => ⟨fun h => by rw [if_pos ⟨h0, h⟩], fun h => by rw [if_neg fun g => h g.2]⟩, fun h => by rw [if_neg fun g => h g.1]⟩
    · have e := vG_iff (g3 p) ⟨3, m, x, p, f⟩
      simp only [vG_eq, V.agg.injEq, List.cons.injEq, V.z.injEq, V.n.injEq, V.b.injEq, true_and, and_true] at e
      simp only [go_sem, Tryz.f109, kn1, kn2, kn3, kn4, kn5, kn6, kn7, kn8, kn9, kz1, kz2, kz3, kz4, kz5, kz6, kz7, kz8, kz9, kz0, reduceCtorEq, String.reduceEq, kn0, kq1, kq2, kq3, kq4, Int.toNat_natCast, c_gen_pcgKind_right, c_gen_pcgKind_alone, e, gchk_3]
      exact ⟨fun h0 _ => ⟨fun h => by rw [if_pos ⟨h0, h⟩], fun h => by rw [if_neg fun g => h g.2]⟩, fun h => by rw [if_neg fun g => h g.1]⟩
    · have e := vG_iff (g4 f) ⟨4, m, x, p, f⟩
      simp only [vG_eq, V.agg.injEq, List.cons.injEq, V.z.injEq, V.n.injEq, V.b.injEq, true_and, and_true] at e
      simp only [go_sem, Tryz.f109, kn1, kn2, kn3, kn4, kn5, kn6, kn7, kn8, kn9, kz1, kz2, kz3, kz4, kz5, kz6, kz7, kz8, kz9, kz0, reduceCtorEq, String.reduceEq, kn0, kq1, kq2, kq3, kq4, Int.toNat_natCast, c_gen_philoxKind_right, c_gen_philoxKind_alone, e, gchk_4]
      exact fun _ => ⟨fun h => by rw [if_pos h], fun h => by rw [if_neg h]⟩
  · simp only [go_sem, Tryz.f109, kn1, kn2, kn3, kn4, kn5, kn6, kn7, kn8, kn9, kz1, kz2, kz3, kz4, kz5, kz6, kz7, kz8, kz9, kz0, reduceCtorEq, String.reduceEq, kn0, kq1, kq2, kq3, kq4, Int.toNat_natCast, genOf_no hk, gchk_5 hk]
def gword (s : GS) : Nat := if gok s then if s.kind = 1 then mword s.mix else if s.kind = 2 then xword s.x else if s.kind = 3 then pcgW s.p else hword s.f else 0
def gstep (s : GS) : GS := if gok s then if s.kind = 1 then g1 (mstep s.mix) else if s.kind = 2 then g2 (xstep s.x) else if s.kind = 3 then g3 (pcgS s.p) else g4 (hstep s.f) else s
def gjump (s : GS) (n : Nat) : GS := if s.kind = 1 then g1 (mjump s.mix n) else if s.kind = 2 then g2 (xst s.x n) else if s.kind = 3 then g3 (pcgJ s.p n) else g4 (hjump s.f n)
@[go_sem] noncomputable def c_gen_Jump : Cn := fn2i tG tW (fun _ _ => True) (fun s _ => gok s) (fun s n => .tup [vG (gjump s n), .z 0]) fun s _ => .tup [vG gz, .z (gchk s)]
noncomputable def cx_gen_Jump : Cx := { T := T, E := E, cs := [(92, c_gen_of), (109, c_gen_Check), (161, c_gen_mixKind_jump), (174, c_gen_xoshKind_jump), (222, c_gen_pcgKind_jump), (240, c_gen_philoxKind_jump)], sch := [(4, true, .take 0 (.take 1 (.take 3 (.take 4 (.alt 2 (.alt 5 (.alt 6 (.take 7 (.done)) .no) .no) .no)))))], ob := [], qs := [92, 109, 161, 174, 222, 240], mt := [(187, "knucklebone/gen.jump", 161), (188, "knucklebone/gen.jump", 174), (189, "knucklebone/gen.jump", 222), (190, "knucklebone/gen.jump", 240)] }
@[go_sem] theorem cx_gen_Jump_e : cx_gen_Jump.gs = none ∧ cx_gen_Jump.md = 0 ∧ cx_gen_Jump.T = T ∧ cx_gen_Jump.E = E ∧ cx_gen_Jump.cs = [(92, c_gen_of), (109, c_gen_Check), (161, c_gen_mixKind_jump), (174, c_gen_xoshKind_jump), (222, c_gen_pcgKind_jump), (240, c_gen_philoxKind_jump)] ∧ cx_gen_Jump.mt = [(187, "knucklebone/gen.jump", 161), (188, "knucklebone/gen.jump", 174), (189, "knucklebone/gen.jump", 222), (190, "knucklebone/gen.jump", 240)] ∧ cx_gen_Jump.sch = [(4, true, .take 0 (.take 1 (.take 3 (.take 4 (.alt 2 (.alt 5 (.alt 6 (.take 7 (.done)) .no) .no) .no)))))] ∧ ∀ d, (cx_gen_Jump.ob).contains d = false := ⟨rfl, rfl, rfl, rfl, rfl, rfl, rfl, fun _ => rfl⟩
theorem cok_gen_Jump : COk Tryz.prog (cx_gen_Jump) := cok_of rfl (.cons ok_gen_of (.cons ok_gen_Check (.cons ok_gen_mixKind_jump (.cons ok_gen_xoshKind_jump (.cons ok_gen_pcgKind_jump (.cons ok_gen_philoxKind_jump (.nil))))))) (.cons (fun _ => fn1_quiet) (.cons (fun _ => fn1_quiet) (.cons (fun _ => fn3_quiet) (.cons (fun _ => fn3_quiet) (.cons (fun _ => fn3_quiet) (.cons (fun _ => fn3_quiet) (.nil))))))) (.nil) rfl (.cons (mtOk_in (inf := Tryz.t187) Tryz.type187 (by kernel_rfl) Tryz.underlying187 (by intro e; exact nofun)) (.cons (mtOk_in (inf := Tryz.t188) Tryz.type188 (by kernel_rfl) Tryz.underlying188 (by intro e; exact nofun)) (.cons (mtOk_in (inf := Tryz.t189) Tryz.type189 (by kernel_rfl) Tryz.underlying189 (by intro e; exact nofun)) (.cons (mtOk_in (inf := Tryz.t190) Tryz.type190 (by kernel_rfl) Tryz.underlying190 (by intro e; exact nofun)) (.nil)))))
theorem ok_gen_Jump : Ok Tryz.prog 76 c_gen_Jump := by
  refine ok_fn2i cok_gen_Jump mixed Tryz.func76 rfl (by kernel_rfl) (by kernel_rfl) rfl ?_
  intro s n om hw _
  by_cases hk : gok s
  · rw [if_pos hk]
    have hz := gchk_ok hk
    obtain ⟨h14, hx, hp, -⟩ := hk
    obtain ⟨k, m, x, p, f⟩ := s
    obtain rfl | rfl | rfl | rfl : k = 1 ∨ k = 2 ∨ k = 3 ∨ k = 4 := by simp only at h14; omega
    · simp only [go_sem, Tryz.f76, kn1, kn2, kn3, kn4, kn5, kn6, kn7, kn8, kn9, kz1, kz2, kz3, kz4, kz5, kz6, kz7, kz8, kz9, kz0, reduceCtorEq, String.reduceEq, kn0, kq1, kq2, kq3, kq4, Int.toNat_natCast, hz, gjump, c_gen_mixKind_jump]
    · have hx' : (x = x0) = False := eq_false (hx rfl)
      simp only [go_sem, Tryz.f76, kn1, kn2, kn3, kn4, kn5, kn6, kn7, kn8, kn9, kz1, kz2, kz3, kz4, kz5, kz6, kz7, kz8, kz9, kz0, reduceCtorEq, String.reduceEq, kn0, kq1, kq2, kq3, kq4, Int.toNat_natCast, hz, gjump, hx', c_gen_xoshKind_jump]
    · have hp' := hp rfl
      simp only at hp'
      simp only [go_sem, Tryz.f76, kn1, kn2, kn3, kn4, kn5, kn6, kn7, kn8, kn9, kz1, kz2, kz3, kz4, kz5, kz6, kz7, kz8, kz9, kz0, reduceCtorEq, String.reduceEq, kn0, kq1, kq2, kq3, kq4, Int.toNat_natCast, hz, gjump, hp', c_gen_pcgKind_jump]
    · simp only [go_sem, Tryz.f76, kn1, kn2, kn3, kn4, kn5, kn6, kn7, kn8, kn9, kz1, kz2, kz3, kz4, kz5, kz6, kz7, kz8, kz9, kz0, reduceCtorEq, String.reduceEq, kn0, kq1, kq2, kq3, kq4, Int.toNat_natCast, hz, gjump, c_gen_philoxKind_jump]
  · rw [if_neg hk]
    have hz : (gchk s = 0) = False := eq_false (gchk_no hk)
    simp only [go_sem, Tryz.f76, kn1, kn2, kn3, kn4, kn5, kn6, kn7, kn8, kn9, kz1, kz2, kz3, kz4, kz5, kz6, kz7, kz8, kz9, kz0, reduceCtorEq, String.reduceEq, kn0, kq1, kq2, kq3, kq4, Int.toNat_natCast, hz, gz, x0, d0, h0, k0]
def glim (k : Int) : Nat := if k = 1 then 9223372036854775808 else if 2 ≤ k ∧ k ≤ 4 then 170141183460469231731687303715884105728 else 0
@[go_sem] noncomputable def c_gen_Limit : Cn := fn1 tZ (fun _ => True) fun k => vW (glim k)
noncomputable def cx_gen_Limit : Cx := { T := T, E := E, cs := [(17, c_wide_Of), (92, c_gen_of), (93, c_wide_Left), (160, c_gen_mixKind_bits), (173, c_gen_xoshKind_bits), (221, c_gen_pcgKind_bits), (239, c_gen_philoxKind_bits)], sch := [], ob := [], qs := [17, 92, 93, 160, 173, 221, 239], mt := [(187, "knucklebone/gen.bits", 160), (188, "knucklebone/gen.bits", 173), (189, "knucklebone/gen.bits", 221), (190, "knucklebone/gen.bits", 239)] }
@[go_sem] theorem cx_gen_Limit_e : cx_gen_Limit.gs = none ∧ cx_gen_Limit.md = 0 ∧ cx_gen_Limit.T = T ∧ cx_gen_Limit.E = E ∧ cx_gen_Limit.cs = [(17, c_wide_Of), (92, c_gen_of), (93, c_wide_Left), (160, c_gen_mixKind_bits), (173, c_gen_xoshKind_bits), (221, c_gen_pcgKind_bits), (239, c_gen_philoxKind_bits)] ∧ cx_gen_Limit.mt = [(187, "knucklebone/gen.bits", 160), (188, "knucklebone/gen.bits", 173), (189, "knucklebone/gen.bits", 221), (190, "knucklebone/gen.bits", 239)] ∧ ∀ d, (cx_gen_Limit.ob).contains d = false := ⟨rfl, rfl, rfl, rfl, rfl, rfl, fun _ => rfl⟩
theorem cok_gen_Limit : COk Tryz.prog (cx_gen_Limit) := cok_of rfl (.cons ok_wide_Of (.cons ok_gen_of (.cons ok_wide_Left (.cons ok_gen_mixKind_bits (.cons ok_gen_xoshKind_bits (.cons ok_gen_pcgKind_bits (.cons ok_gen_philoxKind_bits (.nil)))))))) (.cons (fun _ => fn1_quiet) (.cons (fun _ => fn1_quiet) (.cons (fun _ => fn2_quiet) (.cons (fun _ => fn1_quiet) (.cons (fun _ => fn1_quiet) (.cons (fun _ => fn1_quiet) (.cons (fun _ => fn1_quiet) (.nil)))))))) (.nil) rfl (.cons (mtOk_in (inf := Tryz.t187) Tryz.type187 (by kernel_rfl) Tryz.underlying187 (by intro e; exact nofun)) (.cons (mtOk_in (inf := Tryz.t188) Tryz.type188 (by kernel_rfl) Tryz.underlying188 (by intro e; exact nofun)) (.cons (mtOk_in (inf := Tryz.t189) Tryz.type189 (by kernel_rfl) Tryz.underlying189 (by intro e; exact nofun)) (.cons (mtOk_in (inf := Tryz.t190) Tryz.type190 (by kernel_rfl) Tryz.underlying190 (by intro e; exact nofun)) (.nil)))))
theorem ok_gen_Limit : Ok Tryz.prog 37 c_gen_Limit := by
  refine ok_fn1 cok_gen_Limit mixed Tryz.func37 rfl (by kernel_rfl) (by kernel_rfl) rfl ?_
  intro k om hw _
  by_cases hk : 1 ≤ k ∧ k ≤ 4
  · obtain rfl | rfl | rfl | rfl : k = 1 ∨ k = 2 ∨ k = 3 ∨ k = 4 := by omega
    · simp only [go_sem, Tryz.f37, kn1, kn2, kn3, kn4, kn5, kn6, kn7, kn8, kn9, kz1, kz2, kz3, kz4, kz5, kz6, kz7, kz8, kz9, kz0, reduceCtorEq, String.reduceEq, kn0, kq1, kq2, kq3, kq4, Int.toNat_natCast, c_gen_mixKind_bits, tW_lit]
      exact fun _ => ⟨by decide, by decide⟩
    · simp only [go_sem, Tryz.f37, kn1, kn2, kn3, kn4, kn5, kn6, kn7, kn8, kn9, kz1, kz2, kz3, kz4, kz5, kz6, kz7, kz8, kz9, kz0, reduceCtorEq, String.reduceEq, kn0, kq1, kq2, kq3, kq4, Int.toNat_natCast, c_gen_xoshKind_bits, tW_lit]
      exact fun _ => ⟨by decide, by decide⟩
    · simp only [go_sem, Tryz.f37, kn1, kn2, kn3, kn4, kn5, kn6, kn7, kn8, kn9, kz1, kz2, kz3, kz4, kz5, kz6, kz7, kz8, kz9, kz0, reduceCtorEq, String.reduceEq, kn0, kq1, kq2, kq3, kq4, Int.toNat_natCast, c_gen_pcgKind_bits, tW_lit]
      exact fun _ => ⟨by decide, by decide⟩
    · simp only [go_sem, Tryz.f37, kn1, kn2, kn3, kn4, kn5, kn6, kn7, kn8, kn9, kz1, kz2, kz3, kz4, kz5, kz6, kz7, kz8, kz9, kz0, reduceCtorEq, String.reduceEq, kn0, kq1, kq2, kq3, kq4, Int.toNat_natCast, c_gen_philoxKind_bits, tW_lit]
      exact fun _ => ⟨by decide, by decide⟩
  · simp only [go_sem, Tryz.f37, kn1, kn2, kn3, kn4, kn5, kn6, kn7, kn8, kn9, kz1, kz2, kz3, kz4, kz5, kz6, kz7, kz8, kz9, kz0, reduceCtorEq, String.reduceEq, kn0, kq1, kq2, kq3, kq4, Int.toNat_natCast, genOf_no hk]
    have e : glim k = 0 := by unfold glim; rw [if_neg (by omega), if_neg (by omega)]
    rw [e]
    exact ⟨by decide, by decide⟩
def gst (s : GS) : Nat → GS
  | 0 => s
  | n + 1 => gstep (gst s n)
theorem mstep_lt (x : Nat) : mstep x < 18446744073709551616 := Nat.mod_lt _ (by omega)
theorem gok_1 (m : Nat) : gok (g1 m) := ⟨⟨by show (1 : Int) ≤ 1; decide, by show (1 : Int) ≤ 4; decide⟩, nofun, nofun, rfl⟩
theorem gok_2 {x : X4} (h : x ≠ x0) : gok (g2 x) := ⟨⟨by show (1 : Int) ≤ 2; decide, by show (2 : Int) ≤ 4; decide⟩, fun _ => h, nofun, rfl⟩
theorem gok_3 {p : D2} (h : p.b % 2 = 1) : gok (g3 p) := ⟨⟨by show (1 : Int) ≤ 3; decide, by show (3 : Int) ≤ 4; decide⟩, nofun, fun _ => h, rfl⟩
theorem gok_4 (f : HS) : gok (g4 f) := ⟨⟨by show (1 : Int) ≤ 4; decide, by show (4 : Int) ≤ 4; decide⟩, nofun, nofun, rfl⟩
theorem gok_cases {s : GS} (h : gok s) : (∃ m, s = g1 m) ∨ (∃ x, x ≠ x0 ∧ s = g2 x) ∨ (∃ p : D2, p.b % 2 = 1 ∧ s = g3 p) ∨ ∃ f, s = g4 f := by
  obtain ⟨h1, h2, h3, h4⟩ := h
  have : s.kind = 1 ∨ s.kind = 2 ∨ s.kind = 3 ∨ s.kind = 4 := by omega
  rcases this with e | e | e | e
  · left; refine ⟨s.mix, ?_⟩; rw [← h4]; simp [gal, e, g1]
  · right; left; refine ⟨s.x, h2 e, ?_⟩
    conv => lhs; rw [← h4]
    simp [gal, e]
  · right; right; left; refine ⟨s.p, h3 e, ?_⟩
    conv => lhs; rw [← h4]
    simp [gal, e]
  · right; right; right; refine ⟨s.f, ?_⟩
    conv => lhs; rw [← h4]
    simp [gal, e]
theorem gstep_1 (m : Nat) : gstep (g1 m) = g1 (mstep m) := by unfold gstep; rw [if_pos (gok_1 m), if_pos (show (g1 m).kind = 1 from rfl)]; rfl
theorem gstep_2 {x : X4} (h : x ≠ x0) : gstep (g2 x) = g2 (xstep x) := by unfold gstep; rw [if_pos (gok_2 h), if_neg (show ¬ (g2 x).kind = 1 from (by decide : ¬ (2 : Int) = 1)), if_pos (show (g2 x).kind = 2 from rfl)]; rfl
theorem gstep_3 {p : D2} (h : p.b % 2 = 1) : gstep (g3 p) = g3 (pcgS p) := by unfold gstep; rw [if_pos (gok_3 h), if_neg (show ¬ (g3 p).kind = 1 from (by decide : ¬ (3 : Int) = 1)), if_neg (show ¬ (g3 p).kind = 2 from (by decide : ¬ (3 : Int) = 2)), if_pos (show (g3 p).kind = 3 from rfl)]; rfl
theorem gstep_4 (f : HS) : gstep (g4 f) = g4 (hstep f) := by unfold gstep; rw [if_pos (gok_4 f), if_neg (show ¬ (g4 f).kind = 1 from (by decide : ¬ (4 : Int) = 1)), if_neg (show ¬ (g4 f).kind = 2 from (by decide : ¬ (4 : Int) = 2)), if_neg (show ¬ (g4 f).kind = 3 from (by decide : ¬ (4 : Int) = 3))]; rfl
end Go.Proofs.YteomkgcepiecjaaGreat.I
