/- The reference of layer 1: Mul. -/
import Derived.Test.YteomkgcepiecjaaGreatZRef01a
namespace Go.Proofs.YteomkgcepiecjaaGreat.I
open Go
open Nat renaming reduceEqDiff → kn1, reduceBEq → kn2, reducePow → kn3, reduceMod → kn4, reduceAdd → kn5, reduceSub → kn6, reduceMul → kn7, reduceDiv → kn8, reduceLeDiff → kn9, reduceLT → kn0, zero_lt_one → kq1, zero_add → kq2, zero_le → kq3, le_refl → kq4
open Int renaming reduceToNat → kz1, reduceAdd → kz2, reduceSub → kz3, reduceMul → kz4, reduceDiv → kz5, reduceMod → kz6, reduceLE → kz7, reduceLT → kz8, reduceNeg → kz9, reduceEq → kz0
set_option maxRecDepth 10000
set_option linter.unusedSimpArgs false
set_option linter.unusedVariables false
def X4.at (x : X4) (i : Nat) : Nat := [x.a, x.b, x.c, x.d].getD i 0
def pre (x : X4) : Nat → Nat
  | 0 => 0
  | i + 1 => pre x i + x.at i * 4294967296 ^ i
theorem pre_4 (x : X4) : pre x 4 = dval x := by
  simp only [pre, X4.at, List.getD_cons_zero, List.getD_cons_succ, dval, Nat.zero_add, Nat.pow_zero, Nat.mul_one, Nat.reducePow, Nat.pow_one]
  omega
def rr (x y : X4) (i j : Nat) : Nat := pre x i * dval y + x.at i * 4294967296 ^ i * pre y j
theorem rr_succ (x y : X4) (i j : Nat) : rr x y i (j + 1) = rr x y i j + x.at i * y.at j * 4294967296 ^ (i + j) := by
  simp only [rr, pre]
  rw [Nat.mul_add, Nat.add_assoc, Nat.pow_add, Nat.mul_mul_mul_comm]
theorem pre_split (y : X4) (j : Nat) (h : j ≤ 4) : ∃ w, dval y = pre y j + 4294967296 ^ j * w := by
  rw [← pre_4]
  obtain ⟨k, hk⟩ : ∃ k, 4 = j + k := ⟨4 - j, by omega⟩
  rw [hk]
  clear h hk
  induction k with
  | zero => exact ⟨0, by simp⟩
  | succ k ih =>
    obtain ⟨w, hw⟩ := ih
    refine ⟨w + 4294967296 ^ k * y.at (j + k), ?_⟩
    rw [← Nat.add_assoc, pre, hw, Nat.mul_add, Nat.pow_add, Nat.mul_left_comm (y.at (j + k)), Nat.mul_comm (y.at (j + k)), Nat.add_assoc]
theorem rr_next (x y : X4) (i : Nat) (h : i ≤ 4) : rr x y i (4 - i) % 340282366920938463463374607431768211456 = pre x (i + 1) * dval y % 340282366920938463463374607431768211456 := by
  obtain ⟨w, hw⟩ := pre_split y (4 - i) (by omega)
  have e : pre x (i + 1) * dval y = rr x y i (4 - i) + x.at i * w * 340282366920938463463374607431768211456 := by
    have e4 : (4294967296 : Nat) ^ i * 4294967296 ^ (4 - i) = 340282366920938463463374607431768211456 := by
      rw [← Nat.pow_add, show i + (4 - i) = 4 by omega]
    rw [pre, rr, Nat.add_mul, Nat.add_assoc]
    congr 1
    conv => lhs; rw [hw]
    rw [Nat.mul_add]
    congr 1
    rw [← e4, Nat.mul_mul_mul_comm]
    simp only [Nat.mul_assoc, Nat.mul_comm, Nat.mul_left_comm]
  rw [e, Nat.add_mul_mod_self_right]
theorem mod_add_eq {a b u N : Nat} (h : a % N = b % N) : (a + u) % N = (b + u) % N := by
  rw [Nat.add_mod, h, ← Nat.add_mod]
def nn (z : X4) (t c p : Nat) : Nat := z.at p + t + c
def zset (z : X4) (p v : Nat) : X4 := if p = 0 then ⟨v, z.b, z.c, z.d⟩ else if p = 1 then ⟨z.a, v, z.c, z.d⟩ else if p = 2 then ⟨z.a, z.b, v, z.d⟩ else ⟨z.a, z.b, z.c, v⟩
theorem step_val (z : X4) (t c p : Nat) (hp : p < 4) : dval (zset z p (nn z t c p % 4294967296)) + nn z t c p / 4294967296 * 4294967296 ^ (p + 1) = dval z + c * 4294967296 ^ p + t * 4294967296 ^ p := by
  have e : nn z t c p = 4294967296 * (nn z t c p / 4294967296) + nn z t c p % 4294967296 := by omega
  generalize nn z t c p / 4294967296 = q at e ⊢
  generalize nn z t c p % 4294967296 = r at e ⊢
  obtain rfl | rfl | rfl | rfl : p = 0 ∨ p = 1 ∨ p = 2 ∨ p = 3 := by omega
  all_goals
    simp only [nn, X4.at, List.getD_cons_zero, List.getD_cons_succ] at e
    simp only [zset, dval, Nat.zero_add, Nat.reduceAdd, Nat.pow_zero, Nat.mul_one, Nat.pow_one, Nat.reducePow, if_true, Nat.reduceEqDiff, if_false, Nat.one_ne_zero]
    omega
theorem at_le {x : X4} (h : dig x) {i : Nat} (hi : i < 4) : x.at i ≤ 4294967295 := by
  obtain ⟨h1, h2, h3, h4⟩ := h
  obtain rfl | rfl | rfl | rfl : i = 0 ∨ i = 1 ∨ i = 2 ∨ i = 3 := by omega
  all_goals simp only [X4.at, List.getD_cons_zero, List.getD_cons_succ]; omega
theorem nn_lt {z : X4} {x y : X4} {c i j p : Nat} (hz : dig z) (hx : dig x) (hy : dig y) (hc : c < 4294967296) (hi : i < 4) (hj : j < 4) (hp : p < 4) : nn z (x.at i * y.at j) c p / 4294967296 < 4294967296 ∧ ((z.at p + x.at i * y.at j % 18446744073709551616) % 18446744073709551616 + c) % 18446744073709551616 = nn z (x.at i * y.at j) c p := by
  have h1 : x.at i * y.at j ≤ 4294967295 * 4294967295 := Nat.mul_le_mul (at_le hx hi) (at_le hy hj)
  have h2 := at_le hz hp
  rw [show 4294967295 * 4294967295 = 18446744065119617025 by decide] at h1
  unfold nn
  generalize x.at i * y.at j = t at h1 ⊢
  generalize z.at p = v at h2 ⊢
  constructor <;> omega
def mrel (z : X4) (c e R : Nat) : Prop := (dval z + c * 4294967296 ^ e) % 340282366920938463463374607431768211456 = R % 340282366920938463463374607431768211456
theorem mrel_zero (y : X4) : mrel x0 0 0 (pre x0 0 * dval y) := by
  unfold mrel; rw [pre, Nat.zero_mul, Nat.zero_mul]; rfl
theorem mrel_start {z x y : X4} {i : Nat} (h : mrel z 0 0 (pre x i * dval y)) : mrel z 0 (i + 0) (rr x y i 0) := by
  unfold mrel at h ⊢
  rw [Nat.zero_mul] at h ⊢
  rw [h, rr, pre, Nat.mul_zero, Nat.add_zero]
theorem mrel_end {z x y : X4} {i c : Nat} (hi : i ≤ 4) (h : mrel z c (i + (4 - i)) (rr x y i (4 - i))) : mrel z 0 0 (pre x (i + 1) * dval y) := by
  unfold mrel at h ⊢
  rw [← rr_next x y i hi, ← h, show i + (4 - i) = 4 by omega, show (4294967296 : Nat) ^ 4 = 340282366920938463463374607431768211456 by decide, Nat.add_mul_mod_self_right, Nat.zero_mul, Nat.add_zero]
theorem dval_lt {z : X4} (h : dig z) : dval z < 340282366920938463463374607431768211456 := by
  obtain ⟨d1, d2, d3, d4⟩ := h
  simp only [dval]; omega
theorem mrel_fin {z x y : X4} (hz : dig z) (h : mrel z 0 0 (pre x 4 * dval y)) : dval z = dval x * dval y % 340282366920938463463374607431768211456 := by
  unfold mrel at h
  rw [Nat.zero_mul, Nat.add_zero, Nat.mod_eq_of_lt (dval_lt hz), pre_4] at h
  exact h
theorem mrel_step {z x y : X4} {i j c : Nat} (hp : i + j < 4) (h : mrel z c (i + j) (rr x y i j)) : mrel (zset z (i + j) (nn z (x.at i * y.at j) c (i + j) % 4294967296)) (nn z (x.at i * y.at j) c (i + j) / 4294967296) (i + (j + 1)) (rr x y i (j + 1)) := by
  unfold mrel at h ⊢
  rw [← Nat.add_assoc, step_val _ _ _ _ hp, rr_succ]
  exact mod_add_eq h
theorem zset_dig {z : X4} {p v : Nat} (h : dig z) (hv : v < 4294967296) : dig (zset z p v) := by
  obtain ⟨h1, h2, h3, h4⟩ := h
  unfold zset
  split
  · exact ⟨hv, h2, h3, h4⟩
  · split
    · exact ⟨h1, hv, h3, h4⟩
    · split
      · exact ⟨h1, h2, hv, h4⟩
      · exact ⟨h1, h2, h3, hv⟩
theorem mul_cases {i j p jn : Nat} (hi : i < 4) (hj : i + j < 4) (hp : i + j = p) (hjn : j + 1 = jn) : 4 - jn < 4 - j ∧ jn ≤ 4 - i ∧ (j : Int) + 1 = jn ∧ j < 4 ∧ ((i = 0 ∧ j = 0 ∧ p = 0) ∨ (i = 0 ∧ j = 1 ∧ p = 1) ∨ (i = 0 ∧ j = 2 ∧ p = 2) ∨ (i = 0 ∧ j = 3 ∧ p = 3) ∨ (i = 1 ∧ j = 0 ∧ p = 1) ∨ (i = 1 ∧ j = 1 ∧ p = 2) ∨ (i = 1 ∧ j = 2 ∧ p = 3) ∨ (i = 2 ∧ j = 0 ∧ p = 2) ∨ (i = 2 ∧ j = 1 ∧ p = 3) ∨ (i = 3 ∧ j = 0 ∧ p = 3)) := by
  refine ⟨by omega, by omega, by omega, by omega, ?_⟩
  clear hjn
  subst hp
  rcases (by omega : i = 0 ∨ i = 1 ∨ i = 2 ∨ i = 3) with rfl | rfl | rfl | rfl <;> rcases (by omega : j = 0 ∨ j = 1 ∨ j = 2 ∨ j = 3) with rfl | rfl | rfl | rfl <;> first | (exfalso; revert hj; decide) | simp
@[go_sem] noncomputable def c_ref01_Mul : Cn := fn2 tW tW (fun _ _ => True) fun x y => vW (x * y % 340282366920938463463374607431768211456)
noncomputable def cx_ref01_Mul : Cx := { T := T, E := E, cs := [(77, c_ref01_digits), (78, c_ref01_whole)], sch := [(11, false, .take 0 (.take 1 (.take 2 (.take 3 (.take 4 (.take 5 (.take 6 (.take 7 (.take 8 (.take 9 (.take 10 (.take 11 (.take 12 (.take 13 (.take 14 (.take 15 (.done)))))))))))))))))], ob := [], qs := [77, 78] }
@[go_sem] theorem cx_ref01_Mul_e : cx_ref01_Mul.gs = none ∧ cx_ref01_Mul.md = 0 ∧ cx_ref01_Mul.T = T ∧ cx_ref01_Mul.E = E ∧ cx_ref01_Mul.cs = [(77, c_ref01_digits), (78, c_ref01_whole)] ∧ cx_ref01_Mul.sch = [(11, false, .take 0 (.take 1 (.take 2 (.take 3 (.take 4 (.take 5 (.take 6 (.take 7 (.take 8 (.take 9 (.take 10 (.take 11 (.take 12 (.take 13 (.take 14 (.take 15 (.done)))))))))))))))))] ∧ ∀ d, (cx_ref01_Mul.ob).contains d = false := ⟨rfl, rfl, rfl, rfl, rfl, rfl, fun _ => rfl⟩
theorem cok_ref01_Mul : COk Tryz.prog (cx_ref01_Mul) := cok_of rfl (.cons ok_ref01_digits (.cons ok_ref01_whole (.nil))) (.cons (fun _ => fn1_quiet) (.cons (fun _ => fn1_quiet) (.nil))) (.nil)
set_option maxHeartbeats 4000000 in
theorem ok_ref01_Mul : Ok Tryz.prog 103 c_ref01_Mul := by
  refine ok_fn2 cok_ref01_Mul mixed Tryz.func103 rfl (by kernel_rfl) (by kernel_rfl) rfl ?_
  intro m n om hw _
  have hm := wf_w hw
  have hn := wf_w hw.2
  obtain ⟨x, hx⟩ : ∃ x, dg m = x := ⟨_, rfl⟩
  obtain ⟨y, hy⟩ : ∃ y, dg n = y := ⟨_, rfl⟩
  have dx := dg_dig hm
  have dy := dg_dig hn
  have vx := dval_dg (n := m)
  have vy := dval_dg (n := n)
  rw [hx] at dx vx
  rw [hy] at dy vy
  simp only [go_sem, Tryz.f103, kn1, kn2, kn3, kn4, kn5, kn6, kn7, kn8, kn9, kz1, kz2, kz3, kz4, kz5, kz6, kz7, kz8, kz9, kz0, reduceCtorEq, String.reduceEq, kn0, kq1, kq2, kq3, kq4, Int.toNat_natCast, hx, hy]
  refine fun _ _ => ⟨Nat × X4, fun q => ⟨[.u, .u, .u, .u, .ref 4 1 2 0 0, .ref 5 1 4 0 0, .ref 6 1 4 0 0, .ref 7 1 4 0 0, .z q.1, .u, .u, .u, .u, .u, .u, .u, .u, .u, .u, .u, .u, .u, .u, .u, .u, .u, .u, .u, .u, .u, .u, .u, .u, .u, .u, .u, .u, .u, .u, .u, .u, .u, .u, .u, .u, .u, .u, .u, .u, .u, .u, .u], [(7, ⟨4, true, [vX q.2], false⟩), (6, ⟨4, true, [vX y], false⟩), (5, ⟨4, true, [vX x], false⟩), (4, ⟨2, true, [vW 0], false⟩)], om⟩, fun q => q.1 ≤ 4 ∧ dig q.2 ∧ mrel q.2 0 0 (pre x q.1 * dval y), fun q => 4 - q.1, ⟨(0, x0), ⟨by simp, ⟨by decide, by decide, by decide, by decide⟩, mrel_zero y⟩, ?_⟩, ?_⟩
  · simp only [go_sem, kn1, kn2, kn3, kn4, kn5, kn6, kn7, kn8, kn9, kz1, kz2, kz3, kz4, kz5, kz6, kz7, kz8, kz9, kz0, reduceCtorEq, String.reduceEq, kn0, kq1, kq2, kq3, kq4, Int.toNat_natCast, x0]
  · rintro ⟨i, z⟩ ⟨h1, h2, h3⟩
    simp only at h1 h2 h3
    by_cases hi : i < 4
    · have hi' : ((i : Int) < 4) = True := eq_true (by omega)
      simp only [go_sem, kn1, kn2, kn3, kn4, kn5, kn6, kn7, kn8, kn9, kz1, kz2, kz3, kz4, kz5, kz6, kz7, kz8, kz9, kz0, reduceCtorEq, String.reduceEq, kn0, kq1, kq2, kq3, kq4, Int.toNat_natCast, hi']
      refine ⟨Nat × X4 × Nat, fun q => ⟨[.u, .u, .u, .u, .ref 4 1 2 0 0, .ref 5 1 4 0 0, .ref 6 1 4 0 0, .ref 7 1 4 0 0, .z i, .n .u64 q.2.2, .z q.1, .u, .u, .u, .u, .u, .u, .u, .u, .u, .u, .u, .u, .u, .u, .u, .u, .u, .u, .u, .u, .u, .u, .u, .u, .u, .u, .u, .u, .u, .u, .u, .u, .u, .u, .u, .u, .u, .u, .u, .u, .u], [(7, ⟨4, true, [vX q.2.1], false⟩), (6, ⟨4, true, [vX y], false⟩), (5, ⟨4, true, [vX x], false⟩), (4, ⟨2, true, [vW 0], false⟩)], om⟩, fun q => q.1 ≤ 4 - i ∧ dig q.2.1 ∧ q.2.2 < 4294967296 ∧ mrel q.2.1 q.2.2 (i + q.1) (rr x y i q.1), fun q => 4 - q.1, ⟨(0, z, 0), ⟨by simp, h2, by simp, mrel_start h3⟩, ?_⟩, ?_⟩
      · simp only [go_sem, kn1, kn2, kn3, kn4, kn5, kn6, kn7, kn8, kn9, kz1, kz2, kz3, kz4, kz5, kz6, kz7, kz8, kz9, kz0, reduceCtorEq, String.reduceEq, kn0, kq1, kq2, kq3, kq4, Int.toNat_natCast]
      · rintro ⟨j, z, c⟩ ⟨g1, g2, g3, g4⟩
        simp only at g1 g2 g3 g4
        by_cases hj : i + j < 4
        · obtain ⟨p, hp⟩ : ∃ p, i + j = p := ⟨_, rfl⟩
          obtain ⟨jn, hjn⟩ : ∃ jn, j + 1 = jn := ⟨_, rfl⟩
          obtain ⟨mu, jl, je, j4, cs⟩ := mul_cases hi hj hp hjn
          obtain ⟨st1, st3⟩ := nn_lt (p := i + j) g2 dx dy g3 hi j4 hj
          have st2 := zset_dig (p := i + j) (v := nn z (x.at i * y.at j) c (i + j) % 4294967296) g2 (Nat.mod_lt _ (Nat.two_pow_pos 32))
          have st5 := mrel_step hj g4
          rw [hp] at st1 st2 st3 st5
          rw [hjn] at st5
          generalize hN : nn z (x.at i * y.at j) c p = N at st1 st2 st3 st5
          clear hN hj hp hjn
          obtain ⟨rfl, rfl, rfl⟩ | ⟨rfl, rfl, rfl⟩ | ⟨rfl, rfl, rfl⟩ | ⟨rfl, rfl, rfl⟩ | ⟨rfl, rfl, rfl⟩ | ⟨rfl, rfl, rfl⟩ | ⟨rfl, rfl, rfl⟩ | ⟨rfl, rfl, rfl⟩ | ⟨rfl, rfl, rfl⟩ | ⟨rfl, rfl, rfl⟩ := cs
          all_goals
            simp only [zset, if_true, Nat.reduceEqDiff, if_false, Nat.one_ne_zero, Nat.zero_add] at st2 st5
            simp only [X4.at, List.getD_cons_zero, List.getD_cons_succ] at st3
            simp only [go_sem, kn1, kn2, kn3, kn4, kn5, kn6, kn7, kn8, kn9, kz1, kz2, kz3, kz4, kz5, kz6, kz7, kz8, kz9, kz0, reduceCtorEq, String.reduceEq, kn0, kq1, kq2, kq3, kq4, Int.toNat_natCast, st3]
            exact ⟨(jn, ⟨_, _, _, _⟩, _), ⟨jl, st2, st1, st5⟩, ⟨⟨rfl, je⟩, rfl, rfl, rfl, rfl⟩, mu⟩
        · have hj' : ((i : Int) + (j : Int) < 4) = False := eq_false (by omega)
          obtain rfl : j = 4 - i := by omega
          simp only [go_sem, kn1, kn2, kn3, kn4, kn5, kn6, kn7, kn8, kn9, kz1, kz2, kz3, kz4, kz5, kz6, kz7, kz8, kz9, kz0, reduceCtorEq, String.reduceEq, kn0, kq1, kq2, kq3, kq4, Int.toNat_natCast, hj']
          exact ⟨by omega, by omega, (i + 1, z), ⟨by simp only; omega, g2, mrel_end (by omega) g4⟩, ⟨by simp only; omega, rfl, rfl, rfl, rfl⟩, by simp only; omega⟩
    · have hi' : ((i : Int) < 4) = False := eq_false (by omega)
      obtain rfl : i = 4 := by omega
      have h4 := mrel_fin h2 h3
      rw [vx, vy] at h4
      simp only [go_sem, kn1, kn2, kn3, kn4, kn5, kn6, kn7, kn8, kn9, kz1, kz2, kz3, kz4, kz5, kz6, kz7, kz8, kz9, kz0, reduceCtorEq, String.reduceEq, kn0, kq1, kq2, kq3, kq4, Int.toNat_natCast, hi', h2, h4]
end Go.Proofs.YteomkgcepiecjaaGreat.I
