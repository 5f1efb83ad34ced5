/- seed: At, Is, Some. -/
import Derived.Test.YteomkgcepiecjaaGreatZSeed0
import Derived.Test.YteomkgcepiecjaaGreatZSeed1
namespace Go.Proofs.YteomkgcepiecjaaGreat.I
open Go
open Nat renaming reduceEqDiff → kn1, reduceBEq → kn2, reducePow → kn3, reduceMod → kn4, reduceAdd → kn5, reduceSub → kn6, reduceMul → kn7, reduceDiv → kn8, reduceLeDiff → kn9, reduceLT → kn0, zero_lt_one → kq1, zero_add → kq2, zero_le → kq3, le_refl → kq4
open Int renaming reduceToNat → kz1, reduceAdd → kz2, reduceSub → kz3, reduceMul → kz4, reduceDiv → kz5, reduceMod → kz6, reduceLE → kz7, reduceLT → kz8, reduceNeg → kz9, reduceEq → kz0
set_option maxRecDepth 10000
set_option linter.unusedSimpArgs false
set_option linter.unusedVariables false
theorem cmpN_ge (x y : Nat) : (0 ≤ cmpN x y) = (y ≤ x) := by
  unfold cmpN; apply propext; split
  · constructor <;> intro h <;> omega
  · split <;> constructor <;> intro h <;> omega
theorem cmpN_le (x y : Nat) : (cmpN x y ≤ 0) = (x ≤ y) := by
  unfold cmpN; apply propext; split
  · constructor <;> intro h <;> omega
  · split <;> constructor <;> intro h <;> omega
theorem cmpN_lt (x y : Nat) : (cmpN x y < 0) = (x < y) := by
  unfold cmpN; apply propext; split
  · constructor <;> intro h <;> omega
  · split <;> constructor <;> intro h <;> omega
theorem cmpN_gt (x y : Nat) : (0 < cmpN x y) = (y < x) := by
  unfold cmpN; apply propext; split
  · constructor <;> intro h <;> omega
  · split <;> constructor <;> intro h <;> omega
theorem sw_wf (n : Nat) : (sw n).wf := ⟨mword_lt _, mword_lt _, mword_lt _, mword_lt _⟩
theorem sw_a (n : Nat) : (sw n).a = mword n := rfl
theorem sw_b (n : Nat) : (sw n).b = mword (mstep n) := rfl
theorem sw_ne {n : Nat} (h : n < 18446744073709551616) : sw n ≠ x0 := fun e => by
  have e1 := sw_a n
  have e2 := sw_b n
  rw [e] at e1 e2
  exact mstep_ne n (mword_inj (mstep_lt n) h (e2.symm.trans e1))
theorem or1_odd (x : Nat) : (x ||| 1) % 2 = 1 := by
  have : (x ||| 1).testBit 0 = true := by rw [Nat.testBit_or]; simp
  rw [Nat.testBit_zero] at this
  exact of_decide_eq_true this
theorem pway_odd (w : X4) : (pway w).b % 2 = 1 := by
  have := or1_odd w.d
  show (w.c * 18446744073709551616 + (w.d ||| 1)) % 2 = 1
  omega
theorem pway_wf {w : X4} (h : w.wf) : (pway w).wf := by
  obtain ⟨w1, w2, w3, w4⟩ := h
  have := or1_lt w4
  refine ⟨?_, ?_⟩
  · show w.a * 18446744073709551616 + w.b < _; omega
  · show w.c * 18446744073709551616 + (w.d ||| 1) < _; omega
theorem hway_wf (w : X4) : (hway w).wf := ⟨Nat.two_pow_pos 128, Nat.mod_lt _ (by omega), Nat.mod_lt _ (by omega)⟩
theorem snew_ok {k : Int} {n : Nat} (hk : 1 ≤ k ∧ k ≤ 4) (hn : n < 18446744073709551616) : (snew k n).wf ∧ gok (snew k n) ∧ (snew k n).kind = k := by
  have h1 := sw_wf n
  have h2 := sw_ne hn
  generalize hw : sw n = w at h1 h2
  obtain rfl | rfl | rfl | rfl : k = 1 ∨ k = 2 ∨ k = 3 ∨ k = 4 := by omega
  · rw [snew_1]; exact ⟨g1_wf hn, gok_1 _, g1_kind _⟩
  · rw [snew_2, hw]; exact ⟨g2_wf h1, gok_2 h2, g2_kind _⟩
  · rw [snew_3, hw]; exact ⟨g3_wf (pway_wf h1), gok_3 (pway_odd w), g3_kind _⟩
  · rw [snew_4, hw]; exact ⟨g4_wf (hway_wf w), gok_4 _, g4_kind _⟩
theorem glim_lt (k : Int) : glim k < 340282366920938463463374607431768211456 := by
  unfold glim; split
  · omega
  · split <;> omega
@[go_sem] noncomputable def c_seed_At : Cn := fn3j tZ (tN .u64) tW (fun _ _ _ => True) (fun k _ _ => ¬ (1 ≤ k ∧ k ≤ 4)) (fun k _ m => glim k ≤ m) (fun _ _ _ => .tup [vG gz, .z 2]) (fun _ _ _ => .tup [vG gz, .z 10]) fun k n m => .tup [vG (gjump (snew k n) m), .z 0]
noncomputable def cx_seed_At : Cx := { T := T, E := E, cs := [(36, c_wide_Cmp), (37, c_gen_Limit), (75, c_seed_New), (76, c_gen_Jump)], sch := [(4, false, .take 0 (.take 1 (.alt 2 (.alt 3 (.take 4 (.take 5 (.done))) .no) .no)))], ob := [], qs := [36, 37, 75, 76] }
@[go_sem] theorem cx_seed_At_e : cx_seed_At.gs = none ∧ cx_seed_At.md = 0 ∧ cx_seed_At.T = T ∧ cx_seed_At.E = E ∧ cx_seed_At.cs = [(36, c_wide_Cmp), (37, c_gen_Limit), (75, c_seed_New), (76, c_gen_Jump)] ∧ cx_seed_At.sch = [(4, false, .take 0 (.take 1 (.alt 2 (.alt 3 (.take 4 (.take 5 (.done))) .no) .no)))] ∧ ∀ d, (cx_seed_At.ob).contains d = false := ⟨rfl, rfl, rfl, rfl, rfl, rfl, fun _ => rfl⟩
theorem cok_seed_At : COk Tryz.prog (cx_seed_At) := cok_of rfl (.cons ok_wide_Cmp (.cons ok_gen_Limit (.cons ok_seed_New (.cons ok_gen_Jump (.nil))))) (.cons (fun _ => fn2_quiet) (.cons (fun _ => fn1_quiet) (.cons (fun _ => fn2i_quiet) (.cons (fun _ => fn2i_quiet) (.nil))))) (.nil)
theorem ok_seed_At : Ok Tryz.prog 52 c_seed_At := by
  refine ok_fn3j ?_
  refine ok_fn3 cok_seed_At mixed Tryz.func52 rfl (by kernel_rfl) (by kernel_rfl) rfl ?_
  intro k n m om hw _
  have hn : n < 18446744073709551616 := hw.2.1
  by_cases hk : 1 ≤ k ∧ k ≤ 4
  · obtain ⟨s1, s2, s3⟩ := snew_ok hk hn
    have hk' : (¬ (1 ≤ k ∧ k ≤ 4)) = False := eq_false (fun h => h hk)
    rw [if_neg (fun h => h hk)]
    by_cases hm : glim k ≤ m
    · rw [if_pos hm]
      simp only [go_sem, Tryz.f52, kn1, kn2, kn3, kn4, kn5, kn6, kn7, kn8, kn9, kz1, kz2, kz3, kz4, kz5, kz6, kz7, kz8, kz9, kz0, reduceCtorEq, String.reduceEq, kn0, kq1, kq2, kq3, kq4, Int.toNat_natCast, hk, cmpN_ge, hm, gz, x0, d0, h0, k0]
    · rw [if_neg hm]
      simp only [go_sem, Tryz.f52, kn1, kn2, kn3, kn4, kn5, kn6, kn7, kn8, kn9, kz1, kz2, kz3, kz4, kz5, kz6, kz7, kz8, kz9, kz0, reduceCtorEq, String.reduceEq, kn0, kq1, kq2, kq3, kq4, Int.toNat_natCast, hk, cmpN_ge, hm, s2, gz, x0, d0, h0, k0]
  · rw [if_pos hk]
    have hk' : (1 ≤ k ∧ k ≤ 4) = False := eq_false hk
    simp only [go_sem, Tryz.f52, kn1, kn2, kn3, kn4, kn5, kn6, kn7, kn8, kn9, kz1, kz2, kz3, kz4, kz5, kz6, kz7, kz8, kz9, kz0, reduceCtorEq, String.reduceEq, kn0, kq1, kq2, kq3, kq4, Int.toNat_natCast, hk', gz, x0, d0, h0, k0]
@[go_sem] noncomputable def c_seed_Is : Cn := fn4 tG tZ (tN .u64) tW (fun _ _ _ _ => True) fun s k n m => .b (decide ((1 ≤ k ∧ k ≤ 4 ∧ m < glim k) ∧ s = gjump (snew k n) m))
noncomputable def cx_seed_Is : Cx := { T := T, E := E, cs := [(52, c_seed_At)], sch := [], ob := [], qs := [52] }
@[go_sem] theorem cx_seed_Is_e : cx_seed_Is.gs = none ∧ cx_seed_Is.md = 0 ∧ cx_seed_Is.T = T ∧ cx_seed_Is.E = E ∧ cx_seed_Is.cs = [(52, c_seed_At)] ∧ ∀ d, (cx_seed_Is.ob).contains d = false := ⟨rfl, rfl, rfl, rfl, rfl, fun _ => rfl⟩
theorem cok_seed_Is : COk Tryz.prog (cx_seed_Is) := cok_of rfl (.cons ok_seed_At (.nil)) (.cons (fun _ => fn3j_quiet) (.nil)) (.nil)
theorem ok_seed_Is : Ok Tryz.prog 38 c_seed_Is := by
  refine ok_fn4 cok_seed_Is mixed Tryz.func38 rfl (by kernel_rfl) (by kernel_rfl) rfl ?_
  intro s k n m om hw _
  by_cases hk : 1 ≤ k ∧ k ≤ 4
  · have hk' : (¬ (1 ≤ k ∧ k ≤ 4)) = False := eq_false (fun h => h hk)
    by_cases hm : glim k ≤ m
    · simp only [go_sem, Tryz.f38, kn1, kn2, kn3, kn4, kn5, kn6, kn7, kn8, kn9, kz1, kz2, kz3, kz4, kz5, kz6, kz7, kz8, kz9, kz0, reduceCtorEq, String.reduceEq, kn0, kq1, kq2, kq3, kq4, Int.toNat_natCast, hk, hm]
      intro _
      rw [decide_eq_false (fun h => by omega)]
    · have e := vG_iff s (gjump (snew k n) m)
      simp only [vG_eq, V.agg.injEq, List.cons.injEq, V.z.injEq, V.n.injEq, V.b.injEq, true_and, and_true] at e
      simp only [go_sem, Tryz.f38, kn1, kn2, kn3, kn4, kn5, kn6, kn7, kn8, kn9, kz1, kz2, kz3, kz4, kz5, kz6, kz7, kz8, kz9, kz0, reduceCtorEq, String.reduceEq, kn0, kq1, kq2, kq3, kq4, Int.toNat_natCast, hk, hm, e]
      intro _
      exact decide_eq_decide.2 ⟨fun h => ⟨by omega, h⟩, fun h => h.2⟩
  · have hk' : (1 ≤ k ∧ k ≤ 4) = False := eq_false hk
    simp only [go_sem, Tryz.f38, kn1, kn2, kn3, kn4, kn5, kn6, kn7, kn8, kn9, kz1, kz2, kz3, kz4, kz5, kz6, kz7, kz8, kz9, kz0, reduceCtorEq, String.reduceEq, kn0, kq1, kq2, kq3, kq4, Int.toNat_natCast, hk']
    intro _
    rw [decide_eq_false (fun h => hk ⟨h.1.1, h.1.2.1⟩)]
theorem xst_ne0 {x : X4} (h : x.wf) (h0 : x ≠ x0) : ∀ n, xst x n ≠ x0
  | 0 => h0
  | n + 1 => xstep_ne (xst_wf h n) (xst_ne0 h h0 n)
theorem mjump_lt (x n : Nat) : mjump x n < 18446744073709551616 := Nat.mod_lt _ (Nat.two_pow_pos 64)
theorem pcgJ_wf {p : D2} (h : p.wf) (n : Nat) : (pcgJ p n).wf := ⟨Nat.mod_lt _ (Nat.two_pow_pos 128), h.2⟩
theorem pcgJ_b (p : D2) (n : Nat) : (pcgJ p n).b = p.b := rfl
theorem hjump_wf {f : HS} (h : f.wf) (n : Nat) : (hjump f n).wf := ⟨Nat.mod_lt _ (Nat.two_pow_pos 128), h.2⟩
theorem gjump_ok {s : GS} (hw : s.wf) (h : gok s) (n : Nat) : (gjump s n).wf ∧ gok (gjump s n) ∧ (gjump s n).kind = s.kind := by
  obtain ⟨m, rfl⟩ | ⟨x, hx, rfl⟩ | ⟨p, hp, rfl⟩ | ⟨f, rfl⟩ := gok_cases h
  · rw [gjump_1]; exact ⟨g1_wf (mjump_lt m n), gok_1 _, (g1_kind _).trans (g1_kind _).symm⟩
  · rw [gjump_2]; exact ⟨g2_wf (xst_wf hw.2.1 n), gok_2 (xst_ne0 hw.2.1 hx n), (g2_kind _).trans (g2_kind _).symm⟩
  · rw [gjump_3]; exact ⟨g3_wf (pcgJ_wf hw.2.2.1 n), gok_3 (by rw [pcgJ_b]; exact hp), (g3_kind _).trans (g3_kind _).symm⟩
  · rw [gjump_4]; exact ⟨g4_wf (hjump_wf hw.2.2.2 n), gok_4 _, (g4_kind _).trans (g4_kind _).symm⟩
def swords (s : GS) (n : Nat) : List Nat := (List.range n).map fun i => gword (gst s i)
@[simp, go_sem] theorem swords_len (s : GS) (n : Nat) : (swords s n).length = n := by simp [swords]
def ssome (k : Int) (m : Nat) (c : Int) : Int := if 1 ≤ k ∧ k ≤ 4 then if glim k ≤ m then 10 else if c < 0 ∨ 256 < c then 1 else 0 else 2
@[go_sem] noncomputable def c_seed_Some : Cn := fn4i tZ (tN .u64) tW tZ (fun _ _ _ _ => True) (fun k _ m c => ssome k m c = 0) (fun k n m c => .tup [.sl (els (V.n .u64) (swords (gjump (snew k n) m) c.toNat)), .z 0]) fun k n m c => .tup [.sl [], .z (ssome k m c)]
noncomputable def cx_seed_Some : Cx := { T := T, E := E, cs := [(52, c_seed_At), (89, c_gen_Words)], sch := [], ob := [], qs := [52, 89] }
@[go_sem] theorem cx_seed_Some_e : cx_seed_Some.gs = none ∧ cx_seed_Some.md = 0 ∧ cx_seed_Some.T = T ∧ cx_seed_Some.E = E ∧ cx_seed_Some.cs = [(52, c_seed_At), (89, c_gen_Words)] ∧ ∀ d, (cx_seed_Some.ob).contains d = false := ⟨rfl, rfl, rfl, rfl, rfl, fun _ => rfl⟩
theorem cok_seed_Some : COk Tryz.prog (cx_seed_Some) := cok_of rfl (.cons ok_seed_At (.cons ok_gen_Words (.nil))) (.cons (fun _ => fn3j_quiet) (.cons (fun _ => fn2j_quiet) (.nil))) (.nil)
theorem ok_seed_Some : Ok Tryz.prog 33 c_seed_Some := by
  refine ok_fn4i cok_seed_Some mixed Tryz.func33 rfl (by kernel_rfl) (by kernel_rfl) rfl ?_
  intro k n m c om hw _
  have hn : n < 18446744073709551616 := hw.2.1
  unfold ssome
  by_cases hk : 1 ≤ k ∧ k ≤ 4
  · have hk' : (¬ (1 ≤ k ∧ k ≤ 4)) = False := eq_false (fun h => h hk)
    rw [if_pos hk]
    by_cases hm : glim k ≤ m
    · rw [if_pos hm, if_neg (by decide)]
      simp only [go_sem, Tryz.f33, kn1, kn2, kn3, kn4, kn5, kn6, kn7, kn8, kn9, kz1, kz2, kz3, kz4, kz5, kz6, kz7, kz8, kz9, kz0, reduceCtorEq, String.reduceEq, kn0, kq1, kq2, kq3, kq4, Int.toNat_natCast, hk, hm, gz, x0, d0, h0, k0]
    · rw [if_neg hm]
      obtain ⟨s1, s2, s3⟩ := snew_ok hk hn
      obtain ⟨j1, j2, j3⟩ := gjump_ok s1 s2 m
      generalize hJ : gjump (snew k n) m = J at j1 j2 j3
      by_cases hc : c < 0 ∨ 256 < c
      · rw [if_pos hc, if_neg (by decide)]
        simp only [go_sem, Tryz.f33, kn1, kn2, kn3, kn4, kn5, kn6, kn7, kn8, kn9, kz1, kz2, kz3, kz4, kz5, kz6, kz7, kz8, kz9, kz0, reduceCtorEq, String.reduceEq, kn0, kq1, kq2, kq3, kq4, Int.toNat_natCast, hk, hm, hJ, j2, hc, gz, x0, d0, h0, k0]
      · rw [if_neg hc, if_pos rfl]
        simp only [go_sem, Tryz.f33, kn1, kn2, kn3, kn4, kn5, kn6, kn7, kn8, kn9, kz1, kz2, kz3, kz4, kz5, kz6, kz7, kz8, kz9, kz0, reduceCtorEq, String.reduceEq, kn0, kq1, kq2, kq3, kq4, Int.toNat_natCast, hk, hm, hJ, j2, hc, gz, x0, d0, h0, k0]
        exact fun _ _ => rfl
  · rw [if_neg hk, if_neg (by decide)]
    have hk' : (1 ≤ k ∧ k ≤ 4) = False := eq_false hk
    simp only [go_sem, Tryz.f33, kn1, kn2, kn3, kn4, kn5, kn6, kn7, kn8, kn9, kz1, kz2, kz3, kz4, kz5, kz6, kz7, kz8, kz9, kz0, reduceCtorEq, String.reduceEq, kn0, kq1, kq2, kq3, kq4, Int.toNat_natCast, hk', gz, x0, d0, h0, k0]
end Go.Proofs.YteomkgcepiecjaaGreat.I
