/- The reference of layer 1: digits, whole, Add, Word, Of, Put, Take, Same. -/
import Derived.Test.YtggpbjhmpipplaaGreatGen2
import Derived.Test.YtggpbjhmpipplaaGreatG5
namespace Go.Proofs.YtggpbjhmpipplaaGreat.I
open Go
open Nat renaming reduceEqDiff → kn1, reduceBEq → kn2, reducePow → kn3, reduceMod → kn4, reduceAdd → kn5, reduceSub → kn6, reduceMul → kn7, reduceDiv → kn8, reduceLeDiff → kn9, reduceLT → kn0, zero_lt_one → kq1, zero_add → kq2, zero_le → kq3, le_refl → kq4
open Int renaming reduceToNat → kz1, reduceAdd → kz2, reduceSub → kz3, reduceMul → kz4, reduceDiv → kz5, reduceMod → kz6, reduceLE → kz7, reduceLT → kz8, reduceNeg → kz9, reduceEq → kz0
set_option maxRecDepth 10000
set_option linter.unusedSimpArgs false
set_option linter.unusedVariables false

/-- Digits of 32 bits. -/
def dg (n : Nat) : X4 := ⟨n % 18446744073709551616 % 4294967296, n % 18446744073709551616 / 4294967296, n / 18446744073709551616 % 4294967296, n / 18446744073709551616 / 4294967296⟩
/-- All are digits. -/
def dig (x : X4) : Prop := x.a < 4294967296 ∧ x.b < 4294967296 ∧ x.c < 4294967296 ∧ x.d < 4294967296
def dval (x : X4) : Nat := (x.c + 4294967296 * x.d) * 18446744073709551616 + (x.a + 4294967296 * x.b)
theorem dg_dig {n : Nat} (h : n < 340282366920938463463374607431768211456) : dig (dg n) := by
  refine ⟨?_, ?_, ?_, ?_⟩ <;> simp only [dg] <;> omega
theorem dval_dg {n : Nat} : dval (dg n) = n := by
  simp only [dval, dg]; omega
@[go_sem] noncomputable def c_ref01_digits : Cn := fn1 tW (fun _ => True) fun n => vX (dg n)
noncomputable def cx_ref01_digits : Cx := { T := T, E := E, cs := [], sch := [], ob := [], qs := [] }
@[go_sem] theorem cx_ref01_digits_e : cx_ref01_digits.gs = none ∧ cx_ref01_digits.md = 0 ∧ cx_ref01_digits.T = T ∧ cx_ref01_digits.E = E ∧ cx_ref01_digits.cs = [] ∧ ∀ d, (cx_ref01_digits.ob).contains d = false := ⟨rfl, rfl, rfl, rfl, rfl, fun _ => rfl⟩
theorem cok_ref01_digits : COk Tryz.prog (cx_ref01_digits) := cok_of rfl (.nil) (.nil) (.nil)
theorem ok_ref01_digits : Ok Tryz.prog 79 c_ref01_digits := by
  refine ok_fn1 cok_ref01_digits mixed Tryz.func79 rfl (by kernel_rfl) (by kernel_rfl) rfl ?_
  intro n om hw _
  simp only [go_sem, Tryz.f79, kn1, kn2, kn3, kn4, kn5, kn6, kn7, kn8, kn9, kz1, kz2, kz3, kz4, kz5, kz6, kz7, kz8, kz9, kz0, reduceCtorEq, String.reduceEq, kn0, kq1, kq2, kq3, kq4, Int.toNat_natCast, dg]
@[go_sem] noncomputable def c_ref01_whole : Cn := fn1 tX dig fun x => vW (dval x)
noncomputable def cx_ref01_whole : Cx := { T := T, E := E, cs := [], sch := [], ob := [], qs := [] }
@[go_sem] theorem cx_ref01_whole_e : cx_ref01_whole.gs = none ∧ cx_ref01_whole.md = 0 ∧ cx_ref01_whole.T = T ∧ cx_ref01_whole.E = E ∧ cx_ref01_whole.cs = [] ∧ ∀ d, (cx_ref01_whole.ob).contains d = false := ⟨rfl, rfl, rfl, rfl, rfl, fun _ => rfl⟩
theorem cok_ref01_whole : COk Tryz.prog (cx_ref01_whole) := cok_of rfl (.nil) (.nil) (.nil)
theorem ok_ref01_whole : Ok Tryz.prog 80 c_ref01_whole := by
  refine ok_fn1 cok_ref01_whole mixed Tryz.func80 rfl (by kernel_rfl) (by kernel_rfl) rfl ?_
  intro x om hw ⟨h1, h2, h3, h4⟩
  simp only [go_sem, Tryz.f80, kn1, kn2, kn3, kn4, kn5, kn6, kn7, kn8, kn9, kz1, kz2, kz3, kz4, kz5, kz6, kz7, kz8, kz9, kz0, reduceCtorEq, String.reduceEq, kn0, kq1, kq2, kq3, kq4, Int.toNat_natCast, dval]
  refine ⟨?_, ?_⟩ <;> omega

@[go_sem] noncomputable def c_ref01_Add : Cn := fn2 tW tW (fun _ _ => True) fun x y => .tup [vW ((x + y) % 340282366920938463463374607431768211456), .b (decide (340282366920938463463374607431768211456 ≤ x + y))]
noncomputable def cx_ref01_Add : Cx := { T := T, E := E, cs := [(79, c_ref01_digits), (80, c_ref01_whole)], sch := [(7, false, .take 0 (.take 1 (.take 2 (.take 3 (.take 4 (.take 5 (.take 6 (.take 7 (.take 8 (.take 9 (.done)))))))))))], ob := [], qs := [79, 80] }
@[go_sem] theorem cx_ref01_Add_e : cx_ref01_Add.gs = none ∧ cx_ref01_Add.md = 0 ∧ cx_ref01_Add.T = T ∧ cx_ref01_Add.E = E ∧ cx_ref01_Add.cs = [(79, c_ref01_digits), (80, c_ref01_whole)] ∧ cx_ref01_Add.sch = [(7, false, .take 0 (.take 1 (.take 2 (.take 3 (.take 4 (.take 5 (.take 6 (.take 7 (.take 8 (.take 9 (.done)))))))))))] ∧ ∀ d, (cx_ref01_Add.ob).contains d = false := ⟨rfl, rfl, rfl, rfl, rfl, rfl, fun _ => rfl⟩
theorem cok_ref01_Add : COk Tryz.prog (cx_ref01_Add) := cok_of rfl (.cons ok_ref01_digits (.cons ok_ref01_whole (.nil))) (.cons (fun _ => fn1_quiet) (.cons (fun _ => fn1_quiet) (.nil))) (.nil)
set_option maxHeartbeats 1000000 in
theorem ok_ref01_Add : Ok Tryz.prog 72 c_ref01_Add := by
  refine ok_fn2 cok_ref01_Add mixed Tryz.func72 rfl (by kernel_rfl) (by kernel_rfl) rfl ?_
  intro m n om hw _
  have hm := wf_w hw
  have hn := wf_w hw.2
  obtain ⟨x, hx⟩ : ∃ x, dg m = x := ⟨_, rfl⟩
  obtain ⟨y, hy⟩ : ∃ y, dg n = y := ⟨_, rfl⟩
  have dx := dg_dig hm
  have dy := dg_dig hn
  have vx := dval_dg (n := m)
  have vy := dval_dg (n := n)
  rw [hx] at dx vx
  rw [hy] at dy vy
  obtain ⟨x1, x2, x3, x4⟩ := dx
  obtain ⟨y1, y2, y3, y4⟩ := dy
  obtain ⟨c1, hc1⟩ : ∃ c, (x.a + y.a) / 4294967296 = c := ⟨_, rfl⟩
  obtain ⟨c2, hc2⟩ : ∃ c, (x.b + y.b + c1) / 4294967296 = c := ⟨_, rfl⟩
  obtain ⟨c3, hc3⟩ : ∃ c, (x.c + y.c + c2) / 4294967296 = c := ⟨_, rfl⟩
  obtain ⟨c4, hc4⟩ : ∃ c, (x.d + y.d + c3) / 4294967296 = c := ⟨_, rfl⟩
  have q1 : c1 ≤ 1 := by omega
  have q2 : c2 ≤ 1 := by omega
  have q3 : c3 ≤ 1 := by omega
  have q4 : c4 ≤ 1 := by omega
  obtain ⟨C, hC⟩ : ∃ C, C = [0, c1, c2, c3, c4] := ⟨_, rfl⟩
  obtain ⟨X, hX⟩ : ∃ X : List X4, X = [x, ⟨(x.a + y.a) % 4294967296, x.b, x.c, x.d⟩, ⟨(x.a + y.a) % 4294967296, (x.b + y.b + c1) % 4294967296, x.c, x.d⟩, ⟨(x.a + y.a) % 4294967296, (x.b + y.b + c1) % 4294967296, (x.c + y.c + c2) % 4294967296, x.d⟩, ⟨(x.a + y.a) % 4294967296, (x.b + y.b + c1) % 4294967296, (x.c + y.c + c2) % 4294967296, (x.d + y.d + c3) % 4294967296⟩] := ⟨_, rfl⟩
  have s1 : (x.a + y.a + 0) % 18446744073709551616 = x.a + y.a := by omega
  simp only [go_sem, Tryz.f72, kn1, kn2, kn3, kn4, kn5, kn6, kn7, kn8, kn9, kz1, kz2, kz3, kz4, kz5, kz6, kz7, kz8, kz9, kz0, reduceCtorEq, String.reduceEq, kn0, kq1, kq2, kq3, kq4, Int.toNat_natCast, hx, hy]
  refine fun _ _ => ⟨Nat, fun k => ⟨[.u, .u, .u, .u, .ref 4 1 2 0 0, .b false, .ref 6 1 4 0 0, .ref 7 1 4 0 0, .n .u64 (C.getD k 0), .z k, .u, .u, .u, .u, .u, .u, .u, .u, .u, .u, .u, .u, .u, .u, .u, .u, .u, .u, .u, .u, .u, .u, .u, .u, .u, .u, .u, .u], [(7, ⟨4, true, [vX y], false⟩), (6, ⟨4, true, [vX (X.getD k x)], false⟩), (4, ⟨2, true, [vW 0], false⟩)], om⟩, fun k => k ≤ 4, fun k => 4 - k, ⟨0, by omega, ?_⟩, ?_⟩
  · simp only [go_sem, kn1, kn2, kn3, kn4, kn5, kn6, kn7, kn8, kn9, kz1, kz2, kz3, kz4, kz5, kz6, kz7, kz8, kz9, kz0, reduceCtorEq, String.reduceEq, kn0, kq1, kq2, kq3, kq4, Int.toNat_natCast, hC, hX]
  · intro k hk
    obtain rfl | rfl | rfl | rfl | rfl : k = 0 ∨ k = 1 ∨ k = 2 ∨ k = 3 ∨ k = 4 := by omega
    all_goals simp only [go_sem, kn1, kn2, kn3, kn4, kn5, kn6, kn7, kn8, kn9, kz1, kz2, kz3, kz4, kz5, kz6, kz7, kz8, kz9, kz0, reduceCtorEq, String.reduceEq, kn0, kq1, kq2, kq3, kq4, Int.toNat_natCast, hC, hX]
    · exact ⟨1, by omega, by simp only [List.getD_cons_succ, List.getD_cons_zero]; refine ⟨⟨?_, ?_⟩, ?_, ?_, ?_, ?_⟩ <;> omega, by omega⟩
    · exact ⟨2, by omega, by simp only [List.getD_cons_succ, List.getD_cons_zero]; refine ⟨⟨?_, ?_⟩, ?_, ?_, ?_, ?_⟩ <;> omega, by omega⟩
    · exact ⟨3, by omega, by simp only [List.getD_cons_succ, List.getD_cons_zero]; refine ⟨⟨?_, ?_⟩, ?_, ?_, ?_, ?_⟩ <;> omega, by omega⟩
    · exact ⟨4, by omega, by simp only [List.getD_cons_succ, List.getD_cons_zero]; refine ⟨⟨?_, ?_⟩, ?_, ?_, ?_, ?_⟩ <;> omega, by omega⟩
    · have k1 : x.a + y.a = 4294967296 * c1 + (x.a + y.a) % 4294967296 := by rw [← hc1]; omega
      have k2 : x.b + y.b + c1 = 4294967296 * c2 + (x.b + y.b + c1) % 4294967296 := by rw [← hc2]; omega
      have k3 : x.c + y.c + c2 = 4294967296 * c3 + (x.c + y.c + c2) % 4294967296 := by rw [← hc3]; omega
      have k4 : x.d + y.d + c3 = 4294967296 * c4 + (x.d + y.d + c3) % 4294967296 := by rw [← hc4]; omega
      have l1 : (x.a + y.a) % 4294967296 < 4294967296 := Nat.mod_lt _ (by omega)
      have l2 : (x.b + y.b + c1) % 4294967296 < 4294967296 := Nat.mod_lt _ (by omega)
      have l3 : (x.c + y.c + c2) % 4294967296 < 4294967296 := Nat.mod_lt _ (by omega)
      have l4 : (x.d + y.d + c3) % 4294967296 < 4294967296 := Nat.mod_lt _ (by omega)
      generalize (x.a + y.a) % 4294967296 = d1 at *
      generalize (x.b + y.b + c1) % 4294967296 = d2 at *
      generalize (x.c + y.c + c2) % 4294967296 = d3 at *
      generalize (x.d + y.d + c3) % 4294967296 = d4 at *
      clear hc1 hc2 hc3 hc4 hX
      have hmn : m + n = c4 * 340282366920938463463374607431768211456 + dval ⟨d1, d2, d3, d4⟩ := by
        rw [← vx, ← vy]; simp only [dval]; omega
      have hV : dval ⟨d1, d2, d3, d4⟩ < 340282366920938463463374607431768211456 := by simp only [dval]; omega
      generalize dval ⟨d1, d2, d3, d4⟩ = W at hmn hV ⊢
      have hmod : (m + n) % 340282366920938463463374607431768211456 = W := by omega
      rw [hmod]
      exact ⟨⟨l1, l2, l3, l4⟩, fun _ => ⟨⟨rfl, rfl⟩, decide_eq_decide.2 ⟨fun _ => by omega, fun _ => by omega⟩⟩⟩

@[go_sem] noncomputable def c_ref01_Of : Cn := fn1 tZs (fun l => good l ∧ l.length ≤ 1000000) fun l => vW (bv l % 340282366920938463463374607431768211456)
noncomputable def cx_ref01_Of : Cx := { T := T, E := E, cs := [(81, c_ref01_Word)], sch := [], ob := [], qs := [81] }
@[go_sem] theorem cx_ref01_Of_e : cx_ref01_Of.gs = none ∧ cx_ref01_Of.md = 0 ∧ cx_ref01_Of.T = T ∧ cx_ref01_Of.E = E ∧ cx_ref01_Of.cs = [(81, c_ref01_Word)] ∧ ∀ d, (cx_ref01_Of.ob).contains d = false := ⟨rfl, rfl, rfl, rfl, rfl, fun _ => rfl⟩
theorem cok_ref01_Of : COk Tryz.prog (cx_ref01_Of) := cok_of rfl (.cons ok_ref01_Word (.nil)) (.cons (fun _ => fn2_quiet) (.nil)) (.nil)
theorem ok_ref01_Of : Ok Tryz.prog 75 c_ref01_Of := by
  refine ok_fn1 cok_ref01_Of mixed Tryz.func75 rfl (by kernel_rfl) (by kernel_rfl) rfl ?_
  intro l om hw ⟨hg, hl⟩
  simp only [go_sem, Tryz.f75, kn1, kn2, kn3, kn4, kn5, kn6, kn7, kn8, kn9, kz1, kz2, kz3, kz4, kz5, kz6, kz7, kz8, kz9, kz0, reduceCtorEq, String.reduceEq, kn0, kq1, kq2, kq3, kq4, Int.toNat_natCast, hg, hl]
  intro _ _
  rw [Nat.shiftRight_eq_div_pow]
  refine ⟨?_, ?_⟩
  · omega
  · rw [Nat.shiftRight_zero]; omega

theorem bits_app2 {i j m n : Nat} (h : m < 2 ^ i) : bitsL i m ++ bitsL j n = bitsL (i + j) (2 ^ i * n + m) := by
  apply List.ext_getElem
  · simp [bitsL]
  · intro k h1 h2
    simp only [bitsL_len, List.length_append] at h1 h2
    rw [List.getElem_append]
    simp only [bitsL, List.length_map, List.length_range, List.getElem_map, List.getElem_range, bitI, Nat.testBit_two_pow_mul_add n h]
    by_cases hk : k < i
    · simp only [hk, dif_pos, if_true]
    · simp only [hk, dif_neg, if_false, not_false_eq_true]
theorem bits_take8 (x : Nat) : (bitsL 64 x).take 8 = bitsL 8 x := by
  simp only [bitsL, ← List.map_take]
  rw [List.take_range, show min 8 64 = 8 from rfl]
theorem ofb_take {b : List Nat} {k : Nat} (h : k < b.length) : ofb (b.take (k + 1)) = 2 ^ (8 * k) * b.getD k 0 + ofb (b.take k) := by
  rw [take_snoc_getD h 0, ofb_append, List.length_take, Nat.min_eq_left (by omega), Nat.pow_mul]
  simp only [ofb, Nat.mul_zero, Nat.add_zero]
  rw [Nat.add_comm]
theorem ofb_take_lt {b : List Nat} (hb : ∀ x ∈ b, x < 256) {k : Nat} (h : k ≤ b.length) : ofb (b.take k) < 2 ^ (8 * k) := by
  have := ofb_lt (b.take k) fun x hx => hb x (List.mem_of_mem_take hx)
  rwa [List.length_take, Nat.min_eq_left h, show (256 : Nat) = 2 ^ 8 from rfl, ← Nat.pow_mul] at this
@[go_sem] noncomputable def c_ref01_Take : Cn := fn1i tY8 (fun _ => True) (fun b => b.length = 16) (fun b => .tup [vW (ofb b), .z 0]) fun _ => .tup [vW 0, .z 11]
noncomputable def cx_ref01_Take : Cx := { T := T, E := E, cs := [(74, c_ref01_Bits), (75, c_ref01_Of)], sch := [], ob := [], qs := [74, 75] }
@[go_sem] theorem cx_ref01_Take_e : cx_ref01_Take.gs = none ∧ cx_ref01_Take.md = 0 ∧ cx_ref01_Take.T = T ∧ cx_ref01_Take.E = E ∧ cx_ref01_Take.cs = [(74, c_ref01_Bits), (75, c_ref01_Of)] ∧ ∀ d, (cx_ref01_Take.ob).contains d = false := ⟨rfl, rfl, rfl, rfl, rfl, fun _ => rfl⟩
theorem cok_ref01_Take : COk Tryz.prog (cx_ref01_Take) := cok_of rfl (.cons ok_ref01_Bits (.cons ok_ref01_Of (.nil))) (.cons (fun _ => fn1_quiet) (.cons (fun _ => fn1_quiet) (.nil))) (.nil)
theorem ok_ref01_Take : Ok Tryz.prog 59 c_ref01_Take := by
  refine ok_fn1i cok_ref01_Take mixed Tryz.func59 rfl (by kernel_rfl) (by kernel_rfl) rfl ?_
  intro b om hw _
  have hb := (wf_8 hw).2
  simp only [go_sem, Tryz.f59, kn1, kn2, kn3, kn4, kn5, kn6, kn7, kn8, kn9, kz1, kz2, kz3, kz4, kz5, kz6, kz7, kz8, kz9, kz0, reduceCtorEq, String.reduceEq, kn0, kq1, kq2, kq3, kq4, Int.toNat_natCast]
  refine ⟨fun h => ?_, fun h => ?_⟩
  · have h' : b.length = 16 := by omega
    refine ⟨Nat, fun k => ⟨[.sl (els (V.n .u8) b), .u, .ref 2 1 2 0 0, .z 0, .row 23 (8 * k) (8 * k), .z k, .u, .u, .u, .u, .u, .u, .u, .u, .u, .u, .u, .u, .u, .u, .u, .u, .u, .u, .u, .u], [(23, ⟨1, false, els V.z (bitsL (8 * k) (ofb (b.take k))), false⟩), (2, ⟨2, true, [vW 0], false⟩)], om⟩, fun k => k ≤ 16, fun k => 16 - k, ⟨0, by omega, ?_⟩, ?_⟩
    · simp only [go_sem, kn1, kn2, kn3, kn4, kn5, kn6, kn7, kn8, kn9, kz1, kz2, kz3, kz4, kz5, kz6, kz7, kz8, kz9, kz0, reduceCtorEq, String.reduceEq, kn0, kq1, kq2, kq3, kq4, Int.toNat_natCast]
      rfl
    · intro k hk
      have hlt := ofb_take_lt hb (k := k) (by omega)
      simp only [go_sem, kn1, kn2, kn3, kn4, kn5, kn6, kn7, kn8, kn9, kz1, kz2, kz3, kz4, kz5, kz6, kz7, kz8, kz9, kz0, reduceCtorEq, String.reduceEq, kn0, kq1, kq2, kq3, kq4, Int.toNat_natCast, bits_take8, bitsL_len]
      refine ⟨fun g => ⟨by omega, by omega, by omega, k + 1, by omega, ⟨⟨by omega, by omega⟩, ?_⟩, by omega⟩, fun g => ⟨by omega, fun _ => ?_⟩⟩
      · have hm : b.getD k 0 < 256 := by
          rw [List.getD_eq_getElem?_getD, List.getElem?_eq_getElem (by omega)]
          exact hb _ (List.getElem_mem _)
        rw [Nat.mod_eq_of_lt (show b.getD k 0 < 18446744073709551616 by omega), bits_app2 hlt, ofb_take (by omega)]
        rfl
      · obtain rfl : k = 16 := by omega
        rw [if_pos h', Nat.mod_eq_of_lt hlt]
        rw [show (2 : Nat) ^ (8 * 16) = 340282366920938463463374607431768211456 by decide] at hlt
        rw [Nat.mod_eq_of_lt hlt, List.take_of_length_le (by omega)]
  · rw [if_neg (by omega)]

theorem le16_take' (n : Nat) : (le 16 n).take 16 = le 16 n := le_take _ _ _ (Nat.le_refl _)
@[go_sem] noncomputable def c_ref01_Put : Cn := fn1 tW (fun _ => True) fun n => .sl (els (V.n .u8) (le 16 n))
noncomputable def cx_ref01_Put : Cx := { T := T, E := E, cs := [(68, c_ref01_List)], sch := [], ob := [], qs := [68] }
@[go_sem] theorem cx_ref01_Put_e : cx_ref01_Put.gs = none ∧ cx_ref01_Put.md = 0 ∧ cx_ref01_Put.T = T ∧ cx_ref01_Put.E = E ∧ cx_ref01_Put.cs = [(68, c_ref01_List)] ∧ ∀ d, (cx_ref01_Put.ob).contains d = false := ⟨rfl, rfl, rfl, rfl, rfl, fun _ => rfl⟩
theorem cok_ref01_Put : COk Tryz.prog (cx_ref01_Put) := cok_of rfl (.cons ok_ref01_List (.nil)) (.cons (fun _ => fn1_quiet) (.nil)) (.nil)
theorem ok_ref01_Put : Ok Tryz.prog 51 c_ref01_Put := by
  refine ok_fn1 cok_ref01_Put mixed Tryz.func51 rfl (by kernel_rfl) (by kernel_rfl) rfl ?_
  intro n om hw _
  simp only [go_sem, Tryz.f51, kn1, kn2, kn3, kn4, kn5, kn6, kn7, kn8, kn9, kz1, kz2, kz3, kz4, kz5, kz6, kz7, kz8, kz9, kz0, reduceCtorEq, String.reduceEq, kn0, kq1, kq2, kq3, kq4, Int.toNat_natCast]
  refine ⟨Nat, fun k => ⟨[.u, .u, .nils, .row 33 k k, .sl (els V.z (bitsL 128 n)), .z k, .u, .u, .u, .u, .u, .u, .u, .u, .u, .u, .u, .u, .u, .u, .u, .u, .u, .u, .u, .u, .u, .u, .u, .u, .u, .u, .u, .u, .u], [(33, ⟨1, false, els (V.n .u8) (le k n), false⟩), (1, ⟨2, true, [vW n], false⟩)], om⟩, fun k => k ≤ 16, fun k => 16 - k, ⟨0, by omega, ?_⟩, ?_⟩
  · simp only [go_sem, kn1, kn2, kn3, kn4, kn5, kn6, kn7, kn8, kn9, kz1, kz2, kz3, kz4, kz5, kz6, kz7, kz8, kz9, kz0, reduceCtorEq, String.reduceEq, kn0, kq1, kq2, kq3, kq4, Int.toNat_natCast]
    rfl
  · intro k hk
    simp only [go_sem, kn1, kn2, kn3, kn4, kn5, kn6, kn7, kn8, kn9, kz1, kz2, kz3, kz4, kz5, kz6, kz7, kz8, kz9, kz0, reduceCtorEq, String.reduceEq, kn0, kq1, kq2, kq3, kq4, Int.toNat_natCast, le_len]
    refine ⟨fun g => ?_, fun g => by rw [show k = 16 by omega, le16_take']⟩
    refine ⟨Nat, fun d => ⟨[.u, .u, .nils, .row 33 k k, .sl (els V.z (bitsL 128 n)), .z k, .z ((n >>> (8 * k + 8 - d) % 2 ^ d : Nat) : Int), .z (7 - (d : Int)), .u, .u, .u, .u, .u, .u, .u, .u, .u, .u, .u, .u, .u, .u, .u, .u, .u, .u, .u, .u, .u, .u, .u, .u, .u, .u, .u], [(33, ⟨1, false, els (V.n .u8) (le k n), false⟩), (1, ⟨2, true, [vW n], false⟩)], om⟩, fun d => d ≤ 8, fun d => 8 - d, ⟨0, by omega, ?_⟩, ?_⟩
    · simp only [go_sem, kn1, kn2, kn3, kn4, kn5, kn6, kn7, kn8, kn9, kz1, kz2, kz3, kz4, kz5, kz6, kz7, kz8, kz9, kz0, reduceCtorEq, String.reduceEq, kn0, kq1, kq2, kq3, kq4, Int.toNat_natCast, Nat.pow_zero, Nat.mod_one]
    · intro d hd
      have hv : n >>> (8 * k + 8 - d) % 2 ^ d < 2 ^ d := Nat.mod_lt _ (Nat.two_pow_pos d)
      have hv2 : (2 : Nat) ^ d ≤ 2 ^ 8 := Nat.pow_le_pow_right (by omega) hd
      have st : d < 8 → (2 * ((n >>> (8 * k + 8 - d) % 2 ^ d : Nat) : Int) + (bitsL 128 n).getD (8 * (k : Int) + (7 - (d : Int))).toNat 0 = ((n >>> (8 * k + 8 - (d + 1)) % 2 ^ (d + 1) : Nat) : Int)) ∧ 0 ≤ (bitsL 128 n).getD (8 * (k : Int) + (7 - (d : Int))).toNat 0 ∧ (bitsL 128 n).getD (8 * (k : Int) + (7 - (d : Int))).toNat 0 ≤ 1 := fun h => by
        have e1 : (8 * (k : Int) + (7 - (d : Int))).toNat = 8 * k + 8 - (d + 1) := by omega
        have e2 : 8 * k + 8 - d = 8 * k + 8 - (d + 1) + 1 := by omega
        rw [e1, e2, bits_getD _ _ _ (by omega), ← bitI_mod, Nat.shiftRight_succ, ← Nat.shiftRight_eq_div_pow, Nat.pow_succ', Nat.mod_mul]
        generalize n >>> (8 * k + 8 - (d + 1)) = M
        omega
      generalize hB : (bitsL 128 n).getD (8 * (k : Int) + (7 - (d : Int))).toNat 0 = B at st
      generalize hV : n >>> (8 * k + 8 - d) % 2 ^ d = V at hv st
      have e0 : (2 : Nat) ^ 8 = 256 := rfl
      simp only [go_sem, kn1, kn2, kn3, kn4, kn5, kn6, kn7, kn8, kn9, kz1, kz2, kz3, kz4, kz5, kz6, kz7, kz8, kz9, kz0, reduceCtorEq, String.reduceEq, kn0, kq1, kq2, kq3, kq4, Int.toNat_natCast, le_len, hV]
      refine ⟨fun g => ?_, fun g => ?_⟩
      · obtain ⟨st1, st2, st3⟩ := st (by omega)
        rw [hB]
        exact ⟨by omega, by omega, by omega, by omega, by omega, by omega, d + 1, by omega, ⟨st1, by omega⟩, by omega⟩
      · obtain rfl : d = 8 := by omega
        refine ⟨by omega, by omega, k + 1, by omega, ⟨⟨rfl, by omega⟩, ?_⟩, by omega⟩
        have e1 : le (k + 1) n = le k n ++ [n >>> (8 * k) % 256] := by simp [le, List.range_succ]
        rw [e1]; congr 2
        rw [show 8 * k + 8 - 8 = 8 * k by omega, e0] at hV
        omega

@[go_sem] def c_ref01_Same : Cn := fn2 tY8 tY8 (fun _ _ => True) fun xs ys => .b (decide (xs = ys))
noncomputable def cx_ref01_Same : Cx := { T := T, E := E, cs := [], sch := [(6, false, .take 0 (.take 1 (.take 2 (.take 3 (.take 4 (.take 5 (.take 6 (.take 7 (.take 8 (.done))))))))))], ob := [], qs := [] }
@[go_sem] theorem cx_ref01_Same_e : cx_ref01_Same.gs = none ∧ cx_ref01_Same.md = 0 ∧ cx_ref01_Same.T = T ∧ cx_ref01_Same.E = E ∧ cx_ref01_Same.cs = [] ∧ cx_ref01_Same.sch = [(6, false, .take 0 (.take 1 (.take 2 (.take 3 (.take 4 (.take 5 (.take 6 (.take 7 (.take 8 (.done))))))))))] ∧ ∀ d, (cx_ref01_Same.ob).contains d = false := ⟨rfl, rfl, rfl, rfl, rfl, rfl, fun _ => rfl⟩
theorem cok_ref01_Same : COk Tryz.prog (cx_ref01_Same) := cok_of rfl (.nil) (.nil) (.nil)
theorem ok_ref01_Same : Ok Tryz.prog 37 c_ref01_Same := by
  refine ok_fn2 cok_ref01_Same mixed Tryz.func37 rfl (by kernel_rfl) (by kernel_rfl) rfl ?_
  intro xs ys om hw _
  have hxl := (wf_8 hw).1
  simp only [go_sem, Tryz.f37, kn1, kn2, kn3, kn4, kn5, kn6, kn7, kn8, kn9, kz1, kz2, kz3, kz4, kz5, kz6, kz7, kz8, kz9, kz0, reduceCtorEq, String.reduceEq, kn0, kq1, kq2, kq3, kq4, Int.toNat_natCast]
  refine ⟨fun hl => ?_, fun hl => ?_⟩
  · refine ⟨Nat, fun k => ⟨[.sl (els (V.n .u8) xs), .sl (els (V.n .u8) ys), .u, .u, .u, .z k, .u, .u, .u, .u, .u, .u, .u, .u, .u, .u, .u, .u, .u, .u, .u, .u, .u, .u, .u, .u], [], om⟩, fun k => k ≤ xs.length ∧ xs.take k = ys.take k, fun k => xs.length - k, ⟨0, ⟨by omega, rfl⟩, ?_⟩, ?_⟩
    · simp only [go_sem, kn1, kn2, kn3, kn4, kn5, kn6, kn7, kn8, kn9, kz1, kz2, kz3, kz4, kz5, kz6, kz7, kz8, kz9, kz0, reduceCtorEq, String.reduceEq, kn0, kq1, kq2, kq3, kq4, Int.toNat_natCast]
    · rintro k ⟨hk, ht⟩
      simp only [go_sem, kn1, kn2, kn3, kn4, kn5, kn6, kn7, kn8, kn9, kz1, kz2, kz3, kz4, kz5, kz6, kz7, kz8, kz9, kz0, reduceCtorEq, String.reduceEq, kn0, kq1, kq2, kq3, kq4, Int.toNat_natCast]
      refine ⟨fun h => ⟨by omega, by omega, fun e => ⟨by omega, k + 1, ⟨by omega, ?_⟩, by omega, by omega⟩, fun e => ?_⟩, fun h => ?_⟩
      · rw [take_snoc_getD (by omega) 0, take_snoc_getD (show k < ys.length by omega) 0, ht, e]
      · rw [eq_comm, decide_eq_false_iff_not]; rintro rfl; exact e rfl
      · rw [eq_comm, decide_eq_true_iff]
        rwa [List.take_of_length_le (by omega), List.take_of_length_le (by omega)] at ht
  · rw [eq_comm, decide_eq_false_iff_not]; rintro rfl; exact hl rfl
end Go.Proofs.YtggpbjhmpipplaaGreat.I
