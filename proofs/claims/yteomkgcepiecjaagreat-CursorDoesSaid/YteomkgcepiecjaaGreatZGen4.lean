/- gen: Words. -/
import Derived.Test.YteomkgcepiecjaaGreatZGen3
import Derived.Test.YteomkgcepiecjaaGreatZXord
namespace Go.Proofs.YteomkgcepiecjaaGreat.I
open Go
open Nat renaming reduceEqDiff → kn1, reduceBEq → kn2, reducePow → kn3, reduceMod → kn4, reduceAdd → kn5, reduceSub → kn6, reduceMul → kn7, reduceDiv → kn8, reduceLeDiff → kn9, reduceLT → kn0, zero_lt_one → kq1, zero_add → kq2, zero_le → kq3, le_refl → kq4
open Int renaming reduceToNat → kz1, reduceAdd → kz2, reduceSub → kz3, reduceMul → kz4, reduceDiv → kz5, reduceMod → kz6, reduceLE → kz7, reduceLT → kz8, reduceNeg → kz9, reduceEq → kz0
set_option maxRecDepth 10000
set_option linter.unusedSimpArgs false
set_option linter.unusedVariables false
theorem gjump_1 (m n : Nat) : gjump (g1 m) n = g1 (mjump m n) := rfl
theorem gjump_2 (x : X4) (n : Nat) : gjump (g2 x) n = g2 (xst x n) := rfl
theorem gjump_3 (p : D2) (n : Nat) : gjump (g3 p) n = g3 (pcgJ p n) := rfl
theorem gjump_4 (f : HS) (n : Nat) : gjump (g4 f) n = g4 (hjump f n) := rfl
theorem xstep_ne {x : X4} (h : x.wf) (h0 : x ≠ x0) : xstep x ≠ x0 := fun e => by
  have := (xst_inj h h0 (n := 1) (m := 2) (by decide) (by decide)).1 (by simp only [xst, e, xstep_zero])
  omega
theorem d0_wf : d0.wf := ⟨by decide, by decide⟩
theorem h0_wf : h0.wf := ⟨by decide, by decide, by decide⟩
theorem hstep_wf {f : HS} (h : f.wf) : (hstep f).wf := by
  refine ⟨?_, h.2⟩
  have := h.1
  unfold hstep; simp only
  split <;> omega
theorem pcgS_wf {p : D2} (h : p.wf) : (pcgS p).wf := ⟨Nat.mod_lt _ (by omega), h.2⟩
theorem g1_kind (m : Nat) : (g1 m).kind = 1 := rfl
theorem g2_kind (m : X4) : (g2 m).kind = 2 := rfl
theorem g3_kind (m : D2) : (g3 m).kind = 3 := rfl
theorem g4_kind (m : HS) : (g4 m).kind = 4 := rfl
theorem g1_wf {m : Nat} (h : m < 18446744073709551616) : (g1 m).wf := ⟨h, x0_wf, d0_wf, h0_wf⟩
theorem g2_wf {m : X4} (h : m.wf) : (g2 m).wf := ⟨Nat.two_pow_pos 64, h, d0_wf, h0_wf⟩
theorem g3_wf {m : D2} (h : m.wf) : (g3 m).wf := ⟨Nat.two_pow_pos 64, x0_wf, h, h0_wf⟩
theorem g4_wf {m : HS} (h : m.wf) : (g4 m).wf := ⟨Nat.two_pow_pos 64, x0_wf, d0_wf, h⟩
theorem pcgS_b (p : D2) : (pcgS p).b = p.b := rfl
theorem gstep_ok {s : GS} (hw : s.wf) (h : gok s) : (gstep s).wf ∧ gok (gstep s) ∧ (gstep s).kind = s.kind := by
  obtain ⟨m, rfl⟩ | ⟨x, hx, rfl⟩ | ⟨p, hp, rfl⟩ | ⟨f, rfl⟩ := gok_cases h
  · rw [gstep_1]; exact ⟨g1_wf (mstep_lt m), gok_1 _, (g1_kind _).trans (g1_kind _).symm⟩
  · rw [gstep_2 hx]; exact ⟨g2_wf (xstep_wf hw.2.1), gok_2 (xstep_ne hw.2.1 hx), (g2_kind _).trans (g2_kind _).symm⟩
  · rw [gstep_3 hp]; exact ⟨g3_wf (pcgS_wf hw.2.2.1), gok_3 (by rw [pcgS_b]; exact hp), (g3_kind _).trans (g3_kind _).symm⟩
  · rw [gstep_4]; exact ⟨g4_wf (hstep_wf hw.2.2.2), gok_4 _, (g4_kind _).trans (g4_kind _).symm⟩
theorem gst_ok {s : GS} (hw : s.wf) (h : gok s) : ∀ n, (gst s n).wf ∧ gok (gst s n) ∧ (gst s n).kind = s.kind
  | 0 => ⟨hw, h, rfl⟩
  | n + 1 => by
    obtain ⟨h1, h2, h3⟩ := gst_ok hw h n
    have := gstep_ok h1 h2
    rw [h3] at this
    exact this
theorem gstep_k1 {s : GS} (h : gok s) (e : s.kind = 1) : g1 (mstep s.mix) = gstep s := by
  unfold gstep; rw [if_pos h, if_pos e]
theorem gword_k1 {s : GS} (h : gok s) (e : s.kind = 1) : mword s.mix = gword s := by
  unfold gword; rw [if_pos h, if_pos e]
theorem gstep_k2 {s : GS} (h : gok s) (e : s.kind = 2) : g2 (xstep s.x) = gstep s := by
  unfold gstep; rw [if_pos h, if_neg (by rw [e]; decide), if_pos e]
theorem gword_k2 {s : GS} (h : gok s) (e : s.kind = 2) : xword s.x = gword s := by
  unfold gword; rw [if_pos h, if_neg (by rw [e]; decide), if_pos e]
theorem gstep_k3 {s : GS} (h : gok s) (e : s.kind = 3) : g3 (pcgS s.p) = gstep s := by
  unfold gstep; rw [if_pos h, if_neg (by rw [e]; decide), if_neg (by rw [e]; decide), if_pos e]
theorem gword_k3 {s : GS} (h : gok s) (e : s.kind = 3) : pcgW s.p = gword s := by
  unfold gword; rw [if_pos h, if_neg (by rw [e]; decide), if_neg (by rw [e]; decide), if_pos e]
theorem gstep_k4 {s : GS} (h : gok s) (e : s.kind = 4) : g4 (hstep s.f) = gstep s := by
  unfold gstep; rw [if_pos h, if_neg (by rw [e]; decide), if_neg (by rw [e]; decide), if_neg (by rw [e]; decide)]
theorem gword_k4 {s : GS} (h : gok s) (e : s.kind = 4) : hword s.f = gword s := by
  unfold gword; rw [if_pos h, if_neg (by rw [e]; decide), if_neg (by rw [e]; decide), if_neg (by rw [e]; decide)]
theorem ws_len (s : GS) (k : Nat) : ((List.range k).map fun i => gword (gst s i)).length = k := by simp
@[go_sem] noncomputable def c_gen_Words : Cn := fn2j tG tZ (fun _ _ => True) (fun s _ => ¬ gok s) (fun _ n => n < 0 ∨ 256 < n) (fun s _ => .tup [.sl [], vG gz, .z (gchk s)]) (fun _ _ => .tup [.sl [], vG gz, .z 1]) fun s n => .tup [.sl (els (V.n .u64) ((List.range n.toNat).map fun i => gword (gst s i))), vG (gst s n.toNat), .z 0]
noncomputable def cx_gen_Words : Cx := { T := T, E := E, cs := [(92, c_gen_of), (109, c_gen_Check), (165, c_gen_mixKind_step), (167, c_gen_mixKind_word), (178, c_gen_xoshKind_step), (180, c_gen_xoshKind_word), (226, c_gen_pcgKind_step), (228, c_gen_pcgKind_word), (244, c_gen_philoxKind_step), (246, c_gen_philoxKind_word)], sch := [(13, false, .take 0 (.take 1 (.take 2 (.alt 3 (.take 4 (.done)) .no))))], ob := [], qs := [92, 109, 165, 167, 178, 180, 226, 228, 244, 246], mt := [(187, "knucklebone/gen.word", 167), (188, "knucklebone/gen.word", 180), (189, "knucklebone/gen.word", 228), (190, "knucklebone/gen.word", 246), (187, "knucklebone/gen.step", 165), (188, "knucklebone/gen.step", 178), (189, "knucklebone/gen.step", 226), (190, "knucklebone/gen.step", 244)] }
@[go_sem] theorem cx_gen_Words_e : cx_gen_Words.gs = none ∧ cx_gen_Words.md = 0 ∧ cx_gen_Words.T = T ∧ cx_gen_Words.E = E ∧ cx_gen_Words.cs = [(92, c_gen_of), (109, c_gen_Check), (165, c_gen_mixKind_step), (167, c_gen_mixKind_word), (178, c_gen_xoshKind_step), (180, c_gen_xoshKind_word), (226, c_gen_pcgKind_step), (228, c_gen_pcgKind_word), (244, c_gen_philoxKind_step), (246, c_gen_philoxKind_word)] ∧ cx_gen_Words.mt = [(187, "knucklebone/gen.word", 167), (188, "knucklebone/gen.word", 180), (189, "knucklebone/gen.word", 228), (190, "knucklebone/gen.word", 246), (187, "knucklebone/gen.step", 165), (188, "knucklebone/gen.step", 178), (189, "knucklebone/gen.step", 226), (190, "knucklebone/gen.step", 244)] ∧ cx_gen_Words.sch = [(13, false, .take 0 (.take 1 (.take 2 (.alt 3 (.take 4 (.done)) .no))))] ∧ ∀ d, (cx_gen_Words.ob).contains d = false := ⟨rfl, rfl, rfl, rfl, rfl, rfl, rfl, fun _ => rfl⟩
theorem cok_gen_Words : COk Tryz.prog (cx_gen_Words) := cok_of rfl (.cons ok_gen_of (.cons ok_gen_Check (.cons ok_gen_mixKind_step (.cons ok_gen_mixKind_word (.cons ok_gen_xoshKind_step (.cons ok_gen_xoshKind_word (.cons ok_gen_pcgKind_step (.cons ok_gen_pcgKind_word (.cons ok_gen_philoxKind_step (.cons ok_gen_philoxKind_word (.nil))))))))))) (.cons (fun _ => fn1_quiet) (.cons (fun _ => fn1_quiet) (.cons (fun _ => fn2_quiet) (.cons (fun _ => fn2_quiet) (.cons (fun _ => fn2_quiet) (.cons (fun _ => fn2_quiet) (.cons (fun _ => fn2_quiet) (.cons (fun _ => fn2_quiet) (.cons (fun _ => fn2_quiet) (.cons (fun _ => fn2_quiet) (.nil))))))))))) (.nil) rfl (.cons (mtOk_in (inf := Tryz.t187) Tryz.type187 (by kernel_rfl) Tryz.underlying187 (by intro e; exact nofun)) (.cons (mtOk_in (inf := Tryz.t188) Tryz.type188 (by kernel_rfl) Tryz.underlying188 (by intro e; exact nofun)) (.cons (mtOk_in (inf := Tryz.t189) Tryz.type189 (by kernel_rfl) Tryz.underlying189 (by intro e; exact nofun)) (.cons (mtOk_in (inf := Tryz.t190) Tryz.type190 (by kernel_rfl) Tryz.underlying190 (by intro e; exact nofun)) (.cons (mtOk_in (inf := Tryz.t187) Tryz.type187 (by kernel_rfl) Tryz.underlying187 (by intro e; exact nofun)) (.cons (mtOk_in (inf := Tryz.t188) Tryz.type188 (by kernel_rfl) Tryz.underlying188 (by intro e; exact nofun)) (.cons (mtOk_in (inf := Tryz.t189) Tryz.type189 (by kernel_rfl) Tryz.underlying189 (by intro e; exact nofun)) (.cons (mtOk_in (inf := Tryz.t190) Tryz.type190 (by kernel_rfl) Tryz.underlying190 (by intro e; exact nofun)) (.nil)))))))))
set_option maxHeartbeats 4000000 in
theorem ok_gen_Words : Ok Tryz.prog 89 c_gen_Words := by
  refine ok_fn2j ?_
  refine ok_fn2 cok_gen_Words mixed Tryz.func89 rfl (by kernel_rfl) (by kernel_rfl) rfl ?_
  intro s n om hw _
  have hwf := (wf_g hw).1
  by_cases hk : gok s
  · rw [if_neg (fun h => h hk)]
    have hz := gchk_ok hk
    by_cases hn : n < 0 ∨ 256 < n
    · rw [if_pos hn]
      rcases hn with hn | hn
      · have hn1 : (n < 0) = True := eq_true hn
        simp only [go_sem, Tryz.f89, kn1, kn2, kn3, kn4, kn5, kn6, kn7, kn8, kn9, kz1, kz2, kz3, kz4, kz5, kz6, kz7, kz8, kz9, kz0, reduceCtorEq, String.reduceEq, kn0, kq1, kq2, kq3, kq4, Int.toNat_natCast, hz, hn1, gz, x0, d0, h0, k0]
      · have hn1 : (n < 0) = False := eq_false (by omega)
        have hn2 : (256 < n) = True := eq_true hn
        simp only [go_sem, Tryz.f89, kn1, kn2, kn3, kn4, kn5, kn6, kn7, kn8, kn9, kz1, kz2, kz3, kz4, kz5, kz6, kz7, kz8, kz9, kz0, reduceCtorEq, String.reduceEq, kn0, kq1, kq2, kq3, kq4, Int.toNat_natCast, hz, hn1, hn2, gz, x0, d0, h0, k0]
    · rw [if_neg hn]
      have hn1 : (n < 0) = False := eq_false (by omega)
      have hn2 : (256 < n) = False := eq_false (by omega)
      have h14 := hk.1
      have hst := gst_ok hwf hk
      have e0 : s.kind = 1 ∨ s.kind = 2 ∨ s.kind = 3 ∨ s.kind = 4 := by omega
      rcases e0 with e0 | e0 | e0 | e0
      · have ek : genOf s.kind = .ifc 187 (.agg []) := by rw [e0]; rfl
        simp only [go_sem, Tryz.f89, kn1, kn2, kn3, kn4, kn5, kn6, kn7, kn8, kn9, kz1, kz2, kz3, kz4, kz5, kz6, kz7, kz8, kz9, kz0, reduceCtorEq, String.reduceEq, kn0, kq1, kq2, kq3, kq4, Int.toNat_natCast, hz, hn1, hn2, ek]
        refine ⟨Nat, fun k => ⟨[.u, .z n, .ref 2 1 15 0 0, .u, .nils, .ref 5 1 15 0 0, .z 0, .u, .ifc 187 (.agg []), .row 34 k k, .u, .u, .u, .u, .u, .u, .u, .u, .u, .u, .u, .u, .u, .u, .u, .u, .z n, .z k, .u, .u, .u, .u, .u, .u, .u, .u, .u, .u, .u, .u, .u], [(34, ⟨1, false, els (V.n .u64) ((List.range k).map fun i => gword (gst s i)), false⟩), (5, ⟨15, true, [vG gz], false⟩), (2, ⟨15, true, [vG (gst s k)], false⟩)], om⟩, fun k => k ≤ n.toNat, fun k => n.toNat - k, ⟨0, Nat.zero_le _, ?_⟩, ?_⟩
        · simp only [go_sem, kn1, kn2, kn3, kn4, kn5, kn6, kn7, kn8, kn9, kz1, kz2, kz3, kz4, kz5, kz6, kz7, kz8, kz9, kz0, reduceCtorEq, String.reduceEq, kn0, kq1, kq2, kq3, kq4, Int.toNat_natCast, gst, List.range_zero, gz, x0, d0, h0, k0, and_self]
        · intro k hl
          obtain ⟨w1, w2, w3⟩ := hst k
          have s1 := gstep_k1 w2 (w3.trans e0)
          have s2 := gword_k1 w2 (w3.trans e0)
          have s3 : gstep (gst s k) = gst s (k + 1) := rfl
          simp only [go_sem, kn1, kn2, kn3, kn4, kn5, kn6, kn7, kn8, kn9, kz1, kz2, kz3, kz4, kz5, kz6, kz7, kz8, kz9, kz0, reduceCtorEq, String.reduceEq, kn0, kq1, kq2, kq3, kq4, Int.toNat_natCast, ws_len, c_gen_mixKind_word, c_gen_mixKind_step, s1, s2, s3, gz, x0, d0, h0, k0]
          refine ⟨fun g _ => ⟨by omega, fun _ => ⟨by omega, k + 1, by omega, ⟨⟨rfl, by omega⟩, ?_, by simp only [and_self]⟩, by omega⟩⟩, fun g => ⟨?_, ?_⟩⟩
          · rw [List.range_succ, List.map_append]; rfl
          · rw [List.take_of_length_le (by simp), show k = n.toNat by omega]
          · rw [show k = n.toNat by omega]; simp only [and_self]
      · have ek : genOf s.kind = .ifc 188 (.agg []) := by rw [e0]; rfl
        simp only [go_sem, Tryz.f89, kn1, kn2, kn3, kn4, kn5, kn6, kn7, kn8, kn9, kz1, kz2, kz3, kz4, kz5, kz6, kz7, kz8, kz9, kz0, reduceCtorEq, String.reduceEq, kn0, kq1, kq2, kq3, kq4, Int.toNat_natCast, hz, hn1, hn2, ek]
        refine ⟨Nat, fun k => ⟨[.u, .z n, .ref 2 1 15 0 0, .u, .nils, .ref 5 1 15 0 0, .z 0, .u, .ifc 188 (.agg []), .row 34 k k, .u, .u, .u, .u, .u, .u, .u, .u, .u, .u, .u, .u, .u, .u, .u, .u, .z n, .z k, .u, .u, .u, .u, .u, .u, .u, .u, .u, .u, .u, .u, .u], [(34, ⟨1, false, els (V.n .u64) ((List.range k).map fun i => gword (gst s i)), false⟩), (5, ⟨15, true, [vG gz], false⟩), (2, ⟨15, true, [vG (gst s k)], false⟩)], om⟩, fun k => k ≤ n.toNat, fun k => n.toNat - k, ⟨0, Nat.zero_le _, ?_⟩, ?_⟩
        · simp only [go_sem, kn1, kn2, kn3, kn4, kn5, kn6, kn7, kn8, kn9, kz1, kz2, kz3, kz4, kz5, kz6, kz7, kz8, kz9, kz0, reduceCtorEq, String.reduceEq, kn0, kq1, kq2, kq3, kq4, Int.toNat_natCast, gst, List.range_zero, gz, x0, d0, h0, k0, and_self]
        · intro k hl
          obtain ⟨w1, w2, w3⟩ := hst k
          have s1 := gstep_k2 w2 (w3.trans e0)
          have s2 := gword_k2 w2 (w3.trans e0)
          have s3 : gstep (gst s k) = gst s (k + 1) := rfl
          simp only [go_sem, kn1, kn2, kn3, kn4, kn5, kn6, kn7, kn8, kn9, kz1, kz2, kz3, kz4, kz5, kz6, kz7, kz8, kz9, kz0, reduceCtorEq, String.reduceEq, kn0, kq1, kq2, kq3, kq4, Int.toNat_natCast, ws_len, c_gen_xoshKind_word, c_gen_xoshKind_step, s1, s2, s3, gz, x0, d0, h0, k0]
          refine ⟨fun g _ => ⟨by omega, fun _ => ⟨by omega, k + 1, by omega, ⟨⟨rfl, by omega⟩, ?_, by simp only [and_self]⟩, by omega⟩⟩, fun g => ⟨?_, ?_⟩⟩
          · rw [List.range_succ, List.map_append]; rfl
          · rw [List.take_of_length_le (by simp), show k = n.toNat by omega]
          · rw [show k = n.toNat by omega]; simp only [and_self]
      · have ek : genOf s.kind = .ifc 189 (.agg []) := by rw [e0]; rfl
        simp only [go_sem, Tryz.f89, kn1, kn2, kn3, kn4, kn5, kn6, kn7, kn8, kn9, kz1, kz2, kz3, kz4, kz5, kz6, kz7, kz8, kz9, kz0, reduceCtorEq, String.reduceEq, kn0, kq1, kq2, kq3, kq4, Int.toNat_natCast, hz, hn1, hn2, ek]
        refine ⟨Nat, fun k => ⟨[.u, .z n, .ref 2 1 15 0 0, .u, .nils, .ref 5 1 15 0 0, .z 0, .u, .ifc 189 (.agg []), .row 34 k k, .u, .u, .u, .u, .u, .u, .u, .u, .u, .u, .u, .u, .u, .u, .u, .u, .z n, .z k, .u, .u, .u, .u, .u, .u, .u, .u, .u, .u, .u, .u, .u], [(34, ⟨1, false, els (V.n .u64) ((List.range k).map fun i => gword (gst s i)), false⟩), (5, ⟨15, true, [vG gz], false⟩), (2, ⟨15, true, [vG (gst s k)], false⟩)], om⟩, fun k => k ≤ n.toNat, fun k => n.toNat - k, ⟨0, Nat.zero_le _, ?_⟩, ?_⟩
        · simp only [go_sem, kn1, kn2, kn3, kn4, kn5, kn6, kn7, kn8, kn9, kz1, kz2, kz3, kz4, kz5, kz6, kz7, kz8, kz9, kz0, reduceCtorEq, String.reduceEq, kn0, kq1, kq2, kq3, kq4, Int.toNat_natCast, gst, List.range_zero, gz, x0, d0, h0, k0, and_self]
        · intro k hl
          obtain ⟨w1, w2, w3⟩ := hst k
          have s1 := gstep_k3 w2 (w3.trans e0)
          have s2 := gword_k3 w2 (w3.trans e0)
          have s3 : gstep (gst s k) = gst s (k + 1) := rfl
          simp only [go_sem, kn1, kn2, kn3, kn4, kn5, kn6, kn7, kn8, kn9, kz1, kz2, kz3, kz4, kz5, kz6, kz7, kz8, kz9, kz0, reduceCtorEq, String.reduceEq, kn0, kq1, kq2, kq3, kq4, Int.toNat_natCast, ws_len, c_gen_pcgKind_word, c_gen_pcgKind_step, s1, s2, s3, gz, x0, d0, h0, k0]
          refine ⟨fun g _ => ⟨by omega, fun _ => ⟨by omega, k + 1, by omega, ⟨⟨rfl, by omega⟩, ?_, by simp only [and_self]⟩, by omega⟩⟩, fun g => ⟨?_, ?_⟩⟩
          · rw [List.range_succ, List.map_append]; rfl
          · rw [List.take_of_length_le (by simp), show k = n.toNat by omega]
          · rw [show k = n.toNat by omega]; simp only [and_self]
      · have ek : genOf s.kind = .ifc 190 (.agg []) := by rw [e0]; rfl
        simp only [go_sem, Tryz.f89, kn1, kn2, kn3, kn4, kn5, kn6, kn7, kn8, kn9, kz1, kz2, kz3, kz4, kz5, kz6, kz7, kz8, kz9, kz0, reduceCtorEq, String.reduceEq, kn0, kq1, kq2, kq3, kq4, Int.toNat_natCast, hz, hn1, hn2, ek]
        refine ⟨Nat, fun k => ⟨[.u, .z n, .ref 2 1 15 0 0, .u, .nils, .ref 5 1 15 0 0, .z 0, .u, .ifc 190 (.agg []), .row 34 k k, .u, .u, .u, .u, .u, .u, .u, .u, .u, .u, .u, .u, .u, .u, .u, .u, .z n, .z k, .u, .u, .u, .u, .u, .u, .u, .u, .u, .u, .u, .u, .u], [(34, ⟨1, false, els (V.n .u64) ((List.range k).map fun i => gword (gst s i)), false⟩), (5, ⟨15, true, [vG gz], false⟩), (2, ⟨15, true, [vG (gst s k)], false⟩)], om⟩, fun k => k ≤ n.toNat, fun k => n.toNat - k, ⟨0, Nat.zero_le _, ?_⟩, ?_⟩
        · simp only [go_sem, kn1, kn2, kn3, kn4, kn5, kn6, kn7, kn8, kn9, kz1, kz2, kz3, kz4, kz5, kz6, kz7, kz8, kz9, kz0, reduceCtorEq, String.reduceEq, kn0, kq1, kq2, kq3, kq4, Int.toNat_natCast, gst, List.range_zero, gz, x0, d0, h0, k0, and_self]
        · intro k hl
          obtain ⟨w1, w2, w3⟩ := hst k
          have s1 := gstep_k4 w2 (w3.trans e0)
          have s2 := gword_k4 w2 (w3.trans e0)
          have s3 : gstep (gst s k) = gst s (k + 1) := rfl
          simp only [go_sem, kn1, kn2, kn3, kn4, kn5, kn6, kn7, kn8, kn9, kz1, kz2, kz3, kz4, kz5, kz6, kz7, kz8, kz9, kz0, reduceCtorEq, String.reduceEq, kn0, kq1, kq2, kq3, kq4, Int.toNat_natCast, ws_len, c_gen_philoxKind_word, c_gen_philoxKind_step, s1, s2, s3, gz, x0, d0, h0, k0]
          refine ⟨fun g _ => ⟨by omega, fun _ => ⟨by omega, k + 1, by omega, ⟨⟨rfl, by omega⟩, ?_, by simp only [and_self]⟩, by omega⟩⟩, fun g => ⟨?_, ?_⟩⟩
          · rw [List.range_succ, List.map_append]; rfl
          · rw [List.take_of_length_le (by simp), show k = n.toNat by omega]
          · rw [show k = n.toNat by omega]; simp only [and_self]
  · rw [if_pos hk]
    have hz : (gchk s = 0) = False := eq_false (gchk_no hk)
    simp only [go_sem, Tryz.f89, kn1, kn2, kn3, kn4, kn5, kn6, kn7, kn8, kn9, kz1, kz2, kz3, kz4, kz5, kz6, kz7, kz8, kz9, kz0, reduceCtorEq, String.reduceEq, kn0, kq1, kq2, kq3, kq4, Int.toNat_natCast, hz, gz, x0, d0, h0, k0]
end Go.Proofs.YteomkgcepiecjaaGreat.I
