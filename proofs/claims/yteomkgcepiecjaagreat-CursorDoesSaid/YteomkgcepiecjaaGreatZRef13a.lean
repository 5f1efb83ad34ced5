/- The references of layers 6, 10, 11, 12. -/
import Derived.Test.YteomkgcepiecjaaGreatZRef01m
import Derived.Test.YteomkgcepiecjaaGreatZSeed0
namespace Go.Proofs.YteomkgcepiecjaaGreat.I
open Go
open Nat renaming reduceEqDiff → kn1, reduceBEq → kn2, reducePow → kn3, reduceMod → kn4, reduceAdd → kn5, reduceSub → kn6, reduceMul → kn7, reduceDiv → kn8, reduceLeDiff → kn9, reduceLT → kn0, zero_lt_one → kq1, zero_add → kq2, zero_le → kq3, le_refl → kq4
open Int renaming reduceToNat → kz1, reduceAdd → kz2, reduceSub → kz3, reduceMul → kz4, reduceDiv → kz5, reduceMod → kz6, reduceLE → kz7, reduceLT → kz8, reduceNeg → kz9, reduceEq → kz0
set_option maxRecDepth 10000
set_option linter.unusedSimpArgs false
set_option linter.unusedVariables false
theorem mix3_flat (x : Nat) : mix2 x ^^^ mix2 x >>> 31 = mix3 x := by
  have h := xsh_lt (s := 31) (mix2_lt x)
  unfold mix3 mixR
  rw [Nat.mul_one, Nat.mod_eq_of_lt h]
@[go_sem] def c_ref06_Mix : Cn := fn1 (tN .u64) (fun _ => True) fun x => .n .u64 (mix3 x)
noncomputable def cx_ref06_Mix : Cx := { T := T, E := E, cs := [], sch := [], ob := [], qs := [] }
@[go_sem] theorem cx_ref06_Mix_e : cx_ref06_Mix.gs = none ∧ cx_ref06_Mix.md = 0 ∧ cx_ref06_Mix.T = T ∧ cx_ref06_Mix.E = E ∧ cx_ref06_Mix.cs = [] ∧ ∀ d, (cx_ref06_Mix.ob).contains d = false := ⟨rfl, rfl, rfl, rfl, rfl, fun _ => rfl⟩
theorem cok_ref06_Mix : COk Tryz.prog (cx_ref06_Mix) := cok_of rfl (.nil) (.nil) (.nil)
theorem ok_ref06_Mix : Ok Tryz.prog 106 c_ref06_Mix := by
  refine ok_fn1 cok_ref06_Mix mixed Tryz.func106 rfl (by kernel_rfl) (by kernel_rfl) rfl ?_
  intro x om hw _
  have h1 : (x ^^^ x >>> 30) * 13787848793156543929 % 18446744073709551616 = mix1 x := rfl
  have h2 : (mix1 x ^^^ mix1 x >>> 27) * 10723151780598845931 % 18446744073709551616 = mix2 x := rfl
  simp only [go_sem, Tryz.f106, kn1, kn2, kn3, kn4, kn5, kn6, kn7, kn8, kn9, kz1, kz2, kz3, kz4, kz5, kz6, kz7, kz8, kz9, kz0, reduceCtorEq, String.reduceEq, kn0, kq1, kq2, kq3, kq4, Int.toNat_natCast, h1, h2, mix3_flat]
@[go_sem] def c_ref06_Step : Cn := fn1 (tN .u64) (fun _ => True) fun x => .n .u64 (mstep x)
noncomputable def cx_ref06_Step : Cx := { T := T, E := E, cs := [], sch := [], ob := [], qs := [] }
@[go_sem] theorem cx_ref06_Step_e : cx_ref06_Step.gs = none ∧ cx_ref06_Step.md = 0 ∧ cx_ref06_Step.T = T ∧ cx_ref06_Step.E = E ∧ cx_ref06_Step.cs = [] ∧ ∀ d, (cx_ref06_Step.ob).contains d = false := ⟨rfl, rfl, rfl, rfl, rfl, fun _ => rfl⟩
theorem cok_ref06_Step : COk Tryz.prog (cx_ref06_Step) := cok_of rfl (.nil) (.nil) (.nil)
theorem ok_ref06_Step : Ok Tryz.prog 74 c_ref06_Step := by
  refine ok_fn1 cok_ref06_Step mixed Tryz.func74 rfl (by kernel_rfl) (by kernel_rfl) rfl ?_
  intro x om hw _
  simp only [go_sem, Tryz.f74, kn1, kn2, kn3, kn4, kn5, kn6, kn7, kn8, kn9, kz1, kz2, kz3, kz4, kz5, kz6, kz7, kz8, kz9, kz0, reduceCtorEq, String.reduceEq, kn0, kq1, kq2, kq3, kq4, Int.toNat_natCast, mstep]
@[go_sem] def c_ref06_Word : Cn := fn1 (tN .u64) (fun _ => True) fun x => .n .u64 (mword x)
noncomputable def cx_ref06_Word : Cx := { T := T, E := E, cs := [(106, c_ref06_Mix)], sch := [], ob := [], qs := [106] }
@[go_sem] theorem cx_ref06_Word_e : cx_ref06_Word.gs = none ∧ cx_ref06_Word.md = 0 ∧ cx_ref06_Word.T = T ∧ cx_ref06_Word.E = E ∧ cx_ref06_Word.cs = [(106, c_ref06_Mix)] ∧ ∀ d, (cx_ref06_Word.ob).contains d = false := ⟨rfl, rfl, rfl, rfl, rfl, fun _ => rfl⟩
theorem cok_ref06_Word : COk Tryz.prog (cx_ref06_Word) := cok_of rfl (.cons ok_ref06_Mix (.nil)) (.cons (fun _ => fn1_quiet) (.nil)) (.nil)
theorem ok_ref06_Word : Ok Tryz.prog 73 c_ref06_Word := by
  refine ok_fn1 cok_ref06_Word mixed Tryz.func73 rfl (by kernel_rfl) (by kernel_rfl) rfl ?_
  intro x om hw _
  have h1 : (x + 11400714819323198485) % 18446744073709551616 = mstep x := rfl
  have h2 : mix3 (mstep x) = mword x := rfl
  simp only [go_sem, Tryz.f73, kn1, kn2, kn3, kn4, kn5, kn6, kn7, kn8, kn9, kz1, kz2, kz3, kz4, kz5, kz6, kz7, kz8, kz9, kz0, reduceCtorEq, String.reduceEq, kn0, kq1, kq2, kq3, kq4, Int.toNat_natCast, h1, h2]
theorem or1_eq (l : Nat) : l ||| 1 = if l % 2 = 0 then l + 1 else l := by
  have e : 2 ^ 1 * (l / 2) + 1 = 2 ^ 1 * (l / 2) ||| 1 := Nat.two_pow_add_eq_or_of_lt (by decide) (l / 2)
  split
  · rename_i h
    have : l = 2 ^ 1 * (l / 2) := by omega
    rw [← this] at e
    exact e.symm
  · rename_i h
    have : l = 2 ^ 1 * (l / 2) + 1 := by omega
    rw [e] at this
    rw [this, Nat.or_assoc, Nat.or_self]
@[go_sem] noncomputable def c_ref10_Word : Cn := fn1 t2 (fun _ => True) fun s => .n .u64 (pcgW s)
noncomputable def cx_ref10_Word : Cx := { T := T, E := E, cs := [], sch := [], ob := [], qs := [] }
@[go_sem] theorem cx_ref10_Word_e : cx_ref10_Word.gs = none ∧ cx_ref10_Word.md = 0 ∧ cx_ref10_Word.T = T ∧ cx_ref10_Word.E = E ∧ cx_ref10_Word.cs = [] ∧ ∀ d, (cx_ref10_Word.ob).contains d = false := ⟨rfl, rfl, rfl, rfl, rfl, fun _ => rfl⟩
theorem cok_ref10_Word : COk Tryz.prog (cx_ref10_Word) := cok_of rfl (.nil) (.nil) (.nil)
theorem ok_ref10_Word : Ok Tryz.prog 115 c_ref10_Word := by
  refine ok_fn1 cok_ref10_Word mixed Tryz.func115 rfl (by kernel_rfl) (by kernel_rfl) rfl ?_
  intro s om hw _
  simp only [go_sem, Tryz.f115, kn1, kn2, kn3, kn4, kn5, kn6, kn7, kn8, kn9, kz1, kz2, kz3, kz4, kz5, kz6, kz7, kz8, kz9, kz0, reduceCtorEq, String.reduceEq, kn0, kq1, kq2, kq3, kq4, Int.toNat_natCast, pcgW, pcgH, or1_eq]
  refine ⟨fun h => ?_, fun h => ?_⟩
  · rw [if_pos h, Nat.mod_eq_of_lt (show s.a % 18446744073709551616 + 1 < 18446744073709551616 by omega)]
  · rw [if_neg h]
@[go_sem] noncomputable def c_ref10_Step : Cn := fn1 t2 (fun _ => True) fun s => v2 (pcgS s)
noncomputable def cx_ref10_Step : Cx := { T := T, E := E, cs := [(49, c_ref01_Add), (103, c_ref01_Mul)], sch := [(1, false, .take 0 (.take 1 (.take 2 (.take 4 (.take 5 (.alt 3 (.alt 6 (.take 7 (.take 8 (.take 9 (.alt 10 (.alt 11 (.take 12 (.done)) .no) .no)))) (.alt 10 (.alt 6 (.take 7 (.take 8 (.take 9 (.alt 11 (.take 12 (.done)) .no)))) .no) (.no))) (.alt 10 (.alt 3 (.alt 6 (.take 7 (.take 8 (.take 9 (.alt 11 (.take 12 (.done)) .no)))) .no) .no) (.no))))))))], ob := [], qs := [49, 103] }
@[go_sem] theorem cx_ref10_Step_e : cx_ref10_Step.gs = none ∧ cx_ref10_Step.md = 0 ∧ cx_ref10_Step.T = T ∧ cx_ref10_Step.E = E ∧ cx_ref10_Step.cs = [(49, c_ref01_Add), (103, c_ref01_Mul)] ∧ cx_ref10_Step.sch = [(1, false, .take 0 (.take 1 (.take 2 (.take 4 (.take 5 (.alt 3 (.alt 6 (.take 7 (.take 8 (.take 9 (.alt 10 (.alt 11 (.take 12 (.done)) .no) .no)))) (.alt 10 (.alt 6 (.take 7 (.take 8 (.take 9 (.alt 11 (.take 12 (.done)) .no)))) .no) (.no))) (.alt 10 (.alt 3 (.alt 6 (.take 7 (.take 8 (.take 9 (.alt 11 (.take 12 (.done)) .no)))) .no) .no) (.no))))))))] ∧ ∀ d, (cx_ref10_Step.ob).contains d = false := ⟨rfl, rfl, rfl, rfl, rfl, rfl, fun _ => rfl⟩
theorem cok_ref10_Step : COk Tryz.prog (cx_ref10_Step) := cok_of rfl (.cons ok_ref01_Add (.cons ok_ref01_Mul (.nil))) (.cons (fun _ => fn2_quiet) (.cons (fun _ => fn2_quiet) (.nil))) (.nil)
theorem ok_ref10_Step : Ok Tryz.prog 112 c_ref10_Step := by
  refine ok_fn1 cok_ref10_Step mixed Tryz.func112 rfl (by kernel_rfl) (by kernel_rfl) rfl ?_
  intro s om hw _
  have e : pcgS s = ⟨(s.a * 15750249268501108917 % 340282366920938463463374607431768211456 + s.b) % 340282366920938463463374607431768211456, s.b⟩ := by
    unfold pcgS aat; rw [Nat.mod_add_mod, Nat.mul_comm]
  simp only [go_sem, Tryz.f112, kn1, kn2, kn3, kn4, kn5, kn6, kn7, kn8, kn9, kz1, kz2, kz3, kz4, kz5, kz6, kz7, kz8, kz9, kz0, reduceCtorEq, String.reduceEq, kn0, kq1, kq2, kq3, kq4, Int.toNat_natCast, tW_lit, e]
  repeat' (first | with_reducible refine And.intro ?_ ?_ | with_reducible intro _)
  all_goals first | omega | rfl | trivial
@[go_sem] noncomputable def c_ref11_Round : Cn := fn2 tY tK (fun _ _ => True) fun s k => vY (phR s k)
noncomputable def cx_ref11_Round : Cx := { T := T, E := E, cs := [], sch := [], ob := [], qs := [] }
@[go_sem] theorem cx_ref11_Round_e : cx_ref11_Round.gs = none ∧ cx_ref11_Round.md = 0 ∧ cx_ref11_Round.T = T ∧ cx_ref11_Round.E = E ∧ cx_ref11_Round.cs = [] ∧ ∀ d, (cx_ref11_Round.ob).contains d = false := ⟨rfl, rfl, rfl, rfl, rfl, fun _ => rfl⟩
theorem cok_ref11_Round : COk Tryz.prog (cx_ref11_Round) := cok_of rfl (.nil) (.nil) (.nil)
theorem ok_ref11_Round : Ok Tryz.prog 137 c_ref11_Round := by
  refine ok_fn2 cok_ref11_Round mixed Tryz.func137 rfl (by kernel_rfl) (by kernel_rfl) rfl ?_
  intro s k om hw _
  simp only [go_sem, Tryz.f137, kn1, kn2, kn3, kn4, kn5, kn6, kn7, kn8, kn9, kz1, kz2, kz3, kz4, kz5, kz6, kz7, kz8, kz9, kz0, reduceCtorEq, String.reduceEq, kn0, kq1, kq2, kq3, kq4, Int.toNat_natCast, phR, phA, Nat.shiftRight_eq_div_pow, Nat.mod_mod]
@[go_sem] noncomputable def c_ref11_Next : Cn := fn1 tK (fun _ => True) fun k => vK (phN k)
noncomputable def cx_ref11_Next : Cx := { T := T, E := E, cs := [], sch := [], ob := [], qs := [] }
@[go_sem] theorem cx_ref11_Next_e : cx_ref11_Next.gs = none ∧ cx_ref11_Next.md = 0 ∧ cx_ref11_Next.T = T ∧ cx_ref11_Next.E = E ∧ cx_ref11_Next.cs = [] ∧ ∀ d, (cx_ref11_Next.ob).contains d = false := ⟨rfl, rfl, rfl, rfl, rfl, fun _ => rfl⟩
theorem cok_ref11_Next : COk Tryz.prog (cx_ref11_Next) := cok_of rfl (.nil) (.nil) (.nil)
theorem ok_ref11_Next : Ok Tryz.prog 138 c_ref11_Next := by
  refine ok_fn1 cok_ref11_Next mixed Tryz.func138 rfl (by kernel_rfl) (by kernel_rfl) rfl ?_
  intro k om hw _
  simp only [go_sem, Tryz.f138, kn1, kn2, kn3, kn4, kn5, kn6, kn7, kn8, kn9, kz1, kz2, kz3, kz4, kz5, kz6, kz7, kz8, kz9, kz0, reduceCtorEq, String.reduceEq, kn0, kq1, kq2, kq3, kq4, Int.toNat_natCast, phN]
@[go_sem] noncomputable def c_ref11_Mix : Cn := fn3 tY tK tZ (fun _ _ n => 0 ≤ n ∧ n ≤ 100) fun s k n => vY (phM s k n.toNat)
noncomputable def cx_ref11_Mix : Cx := { T := T, E := E, cs := [(137, c_ref11_Round), (138, c_ref11_Next)], sch := [], ob := [], qs := [137, 138] }
@[go_sem] theorem cx_ref11_Mix_e : cx_ref11_Mix.gs = none ∧ cx_ref11_Mix.md = 0 ∧ cx_ref11_Mix.T = T ∧ cx_ref11_Mix.E = E ∧ cx_ref11_Mix.cs = [(137, c_ref11_Round), (138, c_ref11_Next)] ∧ ∀ d, (cx_ref11_Mix.ob).contains d = false := ⟨rfl, rfl, rfl, rfl, rfl, fun _ => rfl⟩
theorem cok_ref11_Mix : COk Tryz.prog (cx_ref11_Mix) := cok_of rfl (.cons ok_ref11_Round (.cons ok_ref11_Next (.nil))) (.cons (fun _ => fn2_quiet) (.cons (fun _ => fn1_quiet) (.nil))) (.nil)
theorem ok_ref11_Mix : Ok Tryz.prog 131 c_ref11_Mix := by
  refine ok_fn3 cok_ref11_Mix mixed Tryz.func131 rfl (by kernel_rfl) (by kernel_rfl) rfl ?_
  intro s k n om hw hn
  simp only [go_sem, Tryz.f131, kn1, kn2, kn3, kn4, kn5, kn6, kn7, kn8, kn9, kz1, kz2, kz3, kz4, kz5, kz6, kz7, kz8, kz9, kz0, reduceCtorEq, String.reduceEq, kn0, kq1, kq2, kq3, kq4, Int.toNat_natCast]
  refine ⟨Nat, fun i => ⟨[.u, .u, .z n, .ref 3 1 4 0 0, .ref 4 1 2 0 0, .u, .ref 6 1 4 0 0, .z i, .u, .u, .u, .u, .u, .u, .u, .u, .u, .u, .u], [(6, ⟨4, true, [.agg [.n .u32 0, .n .u32 0, .n .u32 0, .n .u32 0]], false⟩), (4, ⟨2, true, [vK (phK k i)], false⟩), (3, ⟨4, true, [vY (phM s k i)], false⟩)], om⟩, fun i => i ≤ n.toNat, fun i => n.toNat - i, ⟨0, Nat.zero_le _, ?_⟩, ?_⟩
  · simp only [go_sem, kn1, kn2, kn3, kn4, kn5, kn6, kn7, kn8, kn9, kz1, kz2, kz3, kz4, kz5, kz6, kz7, kz8, kz9, kz0, reduceCtorEq, String.reduceEq, kn0, kq1, kq2, kq3, kq4, Int.toNat_natCast, phM, phK]
  · intro i hi
    simp only [go_sem, kn1, kn2, kn3, kn4, kn5, kn6, kn7, kn8, kn9, kz1, kz2, kz3, kz4, kz5, kz6, kz7, kz8, kz9, kz0, reduceCtorEq, String.reduceEq, kn0, kq1, kq2, kq3, kq4, Int.toNat_natCast]
    refine ⟨fun h _ _ => ⟨by omega, i + 1, by omega, ?_, by omega⟩, fun h => ?_⟩
    · simp only [phM, phK, and_self, true_and, and_true]
      omega
    · rw [show i = n.toNat by omega]
      simp only [and_self]
@[go_sem] noncomputable def c_ref12_Block : Cn := fn1 tW (fun _ => True) fun n => vY (hblock n)
noncomputable def cx_ref12_Block : Cx := { T := T, E := E, cs := [], sch := [], ob := [], qs := [] }
@[go_sem] theorem cx_ref12_Block_e : cx_ref12_Block.gs = none ∧ cx_ref12_Block.md = 0 ∧ cx_ref12_Block.T = T ∧ cx_ref12_Block.E = E ∧ cx_ref12_Block.cs = [] ∧ ∀ d, (cx_ref12_Block.ob).contains d = false := ⟨rfl, rfl, rfl, rfl, rfl, fun _ => rfl⟩
theorem cok_ref12_Block : COk Tryz.prog (cx_ref12_Block) := cok_of rfl (.nil) (.nil) (.nil)
theorem ok_ref12_Block : Ok Tryz.prog 132 c_ref12_Block := by
  refine ok_fn1 cok_ref12_Block mixed Tryz.func132 rfl (by kernel_rfl) (by kernel_rfl) rfl ?_
  intro n om hw _
  simp only [go_sem, Tryz.f132, kn1, kn2, kn3, kn4, kn5, kn6, kn7, kn8, kn9, kz1, kz2, kz3, kz4, kz5, kz6, kz7, kz8, kz9, kz0, reduceCtorEq, String.reduceEq, kn0, kq1, kq2, kq3, kq4, Int.toNat_natCast, hblock, Nat.shiftRight_eq_div_pow, Nat.mod_mod]
theorem pair_add {a b : Nat} (ha : a < 4294967296) (hb : b < 4294967296) : hpair a b = a + 4294967296 * b := by
  unfold hpair
  have e := Nat.two_pow_add_eq_or_of_lt (i := 32) ha b
  rw [Nat.mod_eq_of_lt (show a < 18446744073709551616 by omega), Nat.mod_eq_of_lt (show b < 18446744073709551616 by omega), Nat.shiftLeft_eq, Nat.mul_comm b, Nat.mod_eq_of_lt (by omega), Nat.or_comm, ← e]
  omega
@[go_sem] noncomputable def c_ref12_Word : Cn := fn1 tH (fun _ => True) fun s => .n .u64 (hword s)
noncomputable def cx_ref12_Word : Cx := { T := T, E := E, cs := [(131, c_ref11_Mix), (132, c_ref12_Block)], sch := [(1, false, .take 0 (.take 1 (.take 3 (.take 4 (.alt 2 (.alt 5 (.alt 6 (.alt 7 (.done) .no) .no) (.alt 6 (.alt 5 (.alt 7 (.done) .no) .no) (.no))) (.alt 6 (.alt 2 (.alt 5 (.alt 7 (.done) .no) .no) .no) (.no)))))))], ob := [], qs := [131, 132] }
@[go_sem] theorem cx_ref12_Word_e : cx_ref12_Word.gs = none ∧ cx_ref12_Word.md = 0 ∧ cx_ref12_Word.T = T ∧ cx_ref12_Word.E = E ∧ cx_ref12_Word.cs = [(131, c_ref11_Mix), (132, c_ref12_Block)] ∧ cx_ref12_Word.sch = [(1, false, .take 0 (.take 1 (.take 3 (.take 4 (.alt 2 (.alt 5 (.alt 6 (.alt 7 (.done) .no) .no) (.alt 6 (.alt 5 (.alt 7 (.done) .no) .no) (.no))) (.alt 6 (.alt 2 (.alt 5 (.alt 7 (.done) .no) .no) .no) (.no)))))))] ∧ ∀ d, (cx_ref12_Word.ob).contains d = false := ⟨rfl, rfl, rfl, rfl, rfl, rfl, fun _ => rfl⟩
theorem cok_ref12_Word : COk Tryz.prog (cx_ref12_Word) := cok_of rfl (.cons ok_ref11_Mix (.cons ok_ref12_Block (.nil))) (.cons (fun _ => fn3_quiet) (.cons (fun _ => fn1_quiet) (.nil))) (.nil)
theorem ok_ref12_Word : Ok Tryz.prog 116 c_ref12_Word := by
  refine ok_fn1 cok_ref12_Word mixed Tryz.func116 rfl (by kernel_rfl) (by kernel_rfl) rfl ?_
  intro s om hw _
  obtain ⟨c, k, h⟩ := s
  cases h
  · simp only [go_sem, Tryz.f116, kn1, kn2, kn3, kn4, kn5, kn6, kn7, kn8, kn9, kz1, kz2, kz3, kz4, kz5, kz6, kz7, kz8, kz9, kz0, reduceCtorEq, String.reduceEq, kn0, kq1, kq2, kq3, kq4, Int.toNat_natCast, hword, hout]
    intro _ h
    obtain ⟨h1, h2, h3, h4⟩ := h
    generalize phM (hblock c) k 10 = r at h1 h2 h3 h4 ⊢
    rw [pair_add h1 h2]
    clear hw
    omega
  · simp only [go_sem, Tryz.f116, kn1, kn2, kn3, kn4, kn5, kn6, kn7, kn8, kn9, kz1, kz2, kz3, kz4, kz5, kz6, kz7, kz8, kz9, kz0, reduceCtorEq, String.reduceEq, kn0, kq1, kq2, kq3, kq4, Int.toNat_natCast, hword, hout]
    intro _ h
    obtain ⟨h1, h2, h3, h4⟩ := h
    generalize phM (hblock c) k 10 = r at h1 h2 h3 h4 ⊢
    rw [pair_add h3 h4]
    clear hw
    omega
@[go_sem] noncomputable def c_ref12_Step : Cn := fn1 tH (fun _ => True) fun s => vH (hstep s)
noncomputable def cx_ref12_Step : Cx := { T := T, E := E, cs := [(49, c_ref01_Add)], sch := [], ob := [], qs := [49] }
@[go_sem] theorem cx_ref12_Step_e : cx_ref12_Step.gs = none ∧ cx_ref12_Step.md = 0 ∧ cx_ref12_Step.T = T ∧ cx_ref12_Step.E = E ∧ cx_ref12_Step.cs = [(49, c_ref01_Add)] ∧ ∀ d, (cx_ref12_Step.ob).contains d = false := ⟨rfl, rfl, rfl, rfl, rfl, fun _ => rfl⟩
theorem cok_ref12_Step : COk Tryz.prog (cx_ref12_Step) := cok_of rfl (.cons ok_ref01_Add (.nil)) (.cons (fun _ => fn2_quiet) (.nil)) (.nil)
theorem ok_ref12_Step : Ok Tryz.prog 113 c_ref12_Step := by
  refine ok_fn1 cok_ref12_Step mixed Tryz.func113 rfl (by kernel_rfl) (by kernel_rfl) rfl ?_
  intro s om hw _
  obtain ⟨c, k, h⟩ := s
  cases h
  · simp only [go_sem, Tryz.f113, kn1, kn2, kn3, kn4, kn5, kn6, kn7, kn8, kn9, kz1, kz2, kz3, kz4, kz5, kz6, kz7, kz8, kz9, kz0, reduceCtorEq, String.reduceEq, kn0, kq1, kq2, kq3, kq4, Int.toNat_natCast, hstep, tW_lit]
  · simp only [go_sem, Tryz.f113, kn1, kn2, kn3, kn4, kn5, kn6, kn7, kn8, kn9, kz1, kz2, kz3, kz4, kz5, kz6, kz7, kz8, kz9, kz0, reduceCtorEq, String.reduceEq, kn0, kq1, kq2, kq3, kq4, Int.toNat_natCast, hstep, tW_lit]
end Go.Proofs.YteomkgcepiecjaaGreat.I
