/- Bytes of numbers: mix.Words; wide.Put; gen: little, number, long. -/
import Derived.Test.YtggpbjhmpipplaaGreatGen1
namespace Go.Proofs.YtggpbjhmpipplaaGreat.I
open Go
open Nat renaming reduceEqDiff → kn1, reduceBEq → kn2, reducePow → kn3, reduceMod → kn4, reduceAdd → kn5, reduceSub → kn6, reduceMul → kn7, reduceDiv → kn8, reduceLeDiff → kn9, reduceLT → kn0, zero_lt_one → kq1, zero_add → kq2, zero_le → kq3, le_refl → kq4
open Int renaming reduceToNat → kz1, reduceAdd → kz2, reduceSub → kz3, reduceMul → kz4, reduceDiv → kz5, reduceMod → kz6, reduceLE → kz7, reduceLT → kz8, reduceNeg → kz9, reduceEq → kz0
set_option maxRecDepth 10000
set_option linter.unusedSimpArgs false
set_option linter.unusedVariables false

abbrev tY8 : Ty (List Nat) := tL (tN .u8)
/-- A number's lowest bytes. -/
def le (k n : Nat) : List Nat := (List.range k).map fun i => n >>> (8 * i) % 256
@[simp, go_sem] theorem le_len (k n : Nat) : (le k n).length = k := by simp [le]
theorem le_take (k j n : Nat) (h : j ≤ k) : (le k n).take j = le j n := by
  simp only [le, ← List.map_take]
  rw [List.take_range, Nat.min_eq_left h]
theorem le_filled (k n : Nat) : filled k k (fun i => n >>> (8 * i) % 256) 0 = le k n := filled_all _ _ _
/-- The number of bytes. -/
def ofb : List Nat → Nat
  | [] => 0
  | b :: l => b + 256 * ofb l
theorem ofb_append : ∀ l m : List Nat, ofb (l ++ m) = ofb l + 256 ^ l.length * ofb m
  | [], m => by simp [ofb]
  | b :: l, m => by
    simp only [List.cons_append, ofb, ofb_append l m, List.length_cons, Nat.pow_succ']
    rw [Nat.mul_add, ← Nat.mul_assoc, ← Nat.add_assoc]
theorem ofb_lt : ∀ l : List Nat, (∀ x ∈ l, x < 256) → ofb l < 256 ^ l.length
  | [], _ => by simp [ofb]
  | b :: l, h => by
    have h1 := h b List.mem_cons_self
    have h2 := ofb_lt l fun x hx => h x (List.mem_cons_of_mem _ hx)
    simp only [ofb, List.length_cons, Nat.pow_succ]; omega
theorem ofb_le : ∀ k n : Nat, ofb (le k n) = n % 256 ^ k
  | 0, n => by simp [le, ofb, Nat.mod_one]
  | k + 1, n => by
    have : le (k + 1) n = n % 256 :: le k (n / 256) := by
      simp only [le, List.range_succ_eq_map, List.map_cons, List.map_map]
      congr 1
      apply List.map_congr_left
      intro i _
      simp only [Function.comp_apply]
      rw [Nat.mul_succ, Nat.add_comm, Nat.shiftRight_add, Nat.shiftRight_eq_div_pow _ 8]
    rw [this, ofb, ofb_le k, Nat.pow_succ', Nat.mod_mul]
theorem le_ofb (l : List Nat) (h : ∀ x ∈ l, x < 256) : le l.length (ofb l) = l := by
  induction l with
  | nil => rfl
  | cons b l ih =>
    have h1 := h b List.mem_cons_self
    have h2 := ih fun x hx => h x (List.mem_cons_of_mem _ hx)
    have : le (l.length + 1) (ofb (b :: l)) = (ofb (b :: l)) % 256 :: le l.length ((ofb (b :: l)) / 256) := by
      simp only [le, List.range_succ_eq_map, List.map_cons, List.map_map]
      congr 1
      apply List.map_congr_left
      intro i _
      simp only [Function.comp_apply]
      rw [Nat.mul_succ, Nat.add_comm, Nat.shiftRight_add, Nat.shiftRight_eq_div_pow _ 8]
    rw [List.length_cons, this]
    simp only [ofb]
    rw [show (b + 256 * ofb l) % 256 = b by omega, show (b + 256 * ofb l) / 256 = ofb l by omega, h2]
theorem le_lt {k n x : Nat} (h : x ∈ le k n) : x < 256 := by
  obtain ⟨i, _, rfl⟩ := List.mem_map.1 h
  exact Nat.mod_lt _ (by omega)
theorem ofb_snoc (l : List Nat) (b : Nat) (h : ∀ x ∈ l, x < 256) : ofb l ||| b <<< (8 * l.length) = ofb (l ++ [b]) := by
  rw [ofb_append]
  have h1 := ofb_lt l h
  have e : (256 : Nat) ^ l.length = 2 ^ (8 * l.length) := by rw [Nat.pow_mul]
  rw [e] at h1 ⊢
  rw [Nat.or_comm, Nat.shiftLeft_eq, Nat.mul_comm b, ← Nat.two_pow_add_eq_or_of_lt h1]
  simp only [ofb, Nat.mul_zero, Nat.add_zero]; omega
theorem wf_8 {l : List Nat} {vs : List V} (h : wfs (V.sl (els (V.n .u8) l) :: vs)) : l.length ≤ 9223372036854775807 ∧ ∀ x ∈ l, x < 256 := by
  obtain ⟨⟨h1, h2⟩, -⟩ := h
  rw [els_len] at h1
  exact ⟨h1, (wf_n .u8 l).1 h2⟩

@[go_sem] noncomputable def c_wide_Put : Cn := fn1 tW (fun _ => True) fun n => .sl (els (V.n .u8) (le 16 n))
noncomputable def cx_wide_Put : Cx := { T := T, E := E, cs := [(115, c_wide_Right)], sch := [], ob := [], qs := [115] }
@[go_sem] theorem cx_wide_Put_e : cx_wide_Put.gs = none ∧ cx_wide_Put.md = 0 ∧ cx_wide_Put.T = T ∧ cx_wide_Put.E = E ∧ cx_wide_Put.cs = [(115, c_wide_Right)] ∧ ∀ d, (cx_wide_Put.ob).contains d = false := ⟨rfl, rfl, rfl, rfl, rfl, fun _ => rfl⟩
theorem cok_wide_Put : COk Tryz.prog (cx_wide_Put) := cok_of rfl (.cons ok_wide_Right (.nil)) (.cons (fun _ => fn2_quiet) (.nil)) (.nil)
theorem ok_wide_Put : Ok Tryz.prog 113 c_wide_Put := by
  refine ok_fn1 cok_wide_Put mixed Tryz.func113 rfl (by kernel_rfl) (by kernel_rfl) rfl ?_
  intro n om hw _
  simp only [go_sem, Tryz.f113, kn1, kn2, kn3, kn4, kn5, kn6, kn7, kn8, kn9, kz1, kz2, kz3, kz4, kz5, kz6, kz7, kz8, kz9, kz0, reduceCtorEq, String.reduceEq, kn0, kq1, kq2, kq3, kq4, Int.toNat_natCast]
  refine ⟨Nat, fun k => ⟨[.u, .ref 1 1 2 0 0, .u, .row 5 16 16, .u, .u, .u, .z 16, .z k, .u, .u, .u, .u, .u, .u, .u, .u, .u, .u, .u, .u, .u], [(5, ⟨1, false, els (V.n .u8) (filled 16 k (fun i => n >>> (8 * i) % 256) 0), false⟩), (1, ⟨2, true, [vW n], false⟩)], om⟩, fun k => k ≤ 16, fun k => 16 - k, ⟨0, by omega, ?_⟩, ?_⟩
  · simp only [go_sem, kn1, kn2, kn3, kn4, kn5, kn6, kn7, kn8, kn9, kz1, kz2, kz3, kz4, kz5, kz6, kz7, kz8, kz9, kz0, reduceCtorEq, String.reduceEq, kn0, kq1, kq2, kq3, kq4, Int.toNat_natCast, filled_zero]
  · intro k hk
    have e1 : (8 * (k : Int)).toNat = 8 * k := by omega
    simp only [go_sem, kn1, kn2, kn3, kn4, kn5, kn6, kn7, kn8, kn9, kz1, kz2, kz3, kz4, kz5, kz6, kz7, kz8, kz9, kz0, reduceCtorEq, String.reduceEq, kn0, kq1, kq2, kq3, kq4, Int.toNat_natCast, e1]
    refine ⟨fun h => ⟨by omega, fun _ => ⟨by omega, by omega, by omega, k + 1, by omega, ⟨by omega, ?_⟩, by omega⟩⟩, fun h => ?_⟩
    · rw [← filled_set]; congr 1; omega
    · rw [show k = 16 by omega]; exact le_filled _ _

@[go_sem] noncomputable def c_gen_little : Cn := fn2 (tN .u64) tZ (fun _ k => 0 ≤ k ∧ k ≤ 16) fun n k => .sl (els (V.n .u8) (le k.toNat n))
noncomputable def cx_gen_little : Cx := { T := T, E := E, cs := [(16, c_wide_Of), (113, c_wide_Put)], sch := [], ob := [], qs := [16, 113] }
@[go_sem] theorem cx_gen_little_e : cx_gen_little.gs = none ∧ cx_gen_little.md = 0 ∧ cx_gen_little.T = T ∧ cx_gen_little.E = E ∧ cx_gen_little.cs = [(16, c_wide_Of), (113, c_wide_Put)] ∧ ∀ d, (cx_gen_little.ob).contains d = false := ⟨rfl, rfl, rfl, rfl, rfl, fun _ => rfl⟩
theorem cok_gen_little : COk Tryz.prog (cx_gen_little) := cok_of rfl (.cons ok_wide_Of (.cons ok_wide_Put (.nil))) (.cons (fun _ => fn1_quiet) (.cons (fun _ => fn1_quiet) (.nil))) (.nil)
theorem ok_gen_little : Ok Tryz.prog 110 c_gen_little := by
  refine ok_fn2 cok_gen_little mixed Tryz.func110 rfl (by kernel_rfl) (by kernel_rfl) rfl ?_
  intro n k om hw hk
  simp only [go_sem, Tryz.f110, kn1, kn2, kn3, kn4, kn5, kn6, kn7, kn8, kn9, kz1, kz2, kz3, kz4, kz5, kz6, kz7, kz8, kz9, kz0, reduceCtorEq, String.reduceEq, kn0, kq1, kq2, kq3, kq4, Int.toNat_natCast]
  exact fun _ _ => ⟨hk, le_take _ _ _ (by omega)⟩

@[go_sem] noncomputable def c_gen_number : Cn := fn1 tY8 (fun b => b.length ≤ 8) fun b => .n .u64 (ofb b)
noncomputable def cx_gen_number : Cx := { T := T, E := E, cs := [], sch := [], ob := [], qs := [] }
@[go_sem] theorem cx_gen_number_e : cx_gen_number.gs = none ∧ cx_gen_number.md = 0 ∧ cx_gen_number.T = T ∧ cx_gen_number.E = E ∧ cx_gen_number.cs = [] ∧ ∀ d, (cx_gen_number.ob).contains d = false := ⟨rfl, rfl, rfl, rfl, rfl, fun _ => rfl⟩
theorem cok_gen_number : COk Tryz.prog (cx_gen_number) := cok_of rfl (.nil) (.nil) (.nil)
theorem ok_gen_number : Ok Tryz.prog 111 c_gen_number := by
  refine ok_fn1 cok_gen_number mixed Tryz.func111 rfl (by kernel_rfl) (by kernel_rfl) rfl ?_
  intro b om hw hl
  have hb := (wf_8 hw).2
  simp only [go_sem, Tryz.f111, kn1, kn2, kn3, kn4, kn5, kn6, kn7, kn8, kn9, kz1, kz2, kz3, kz4, kz5, kz6, kz7, kz8, kz9, kz0, reduceCtorEq, String.reduceEq, kn0, kq1, kq2, kq3, kq4, Int.toNat_natCast]
  refine ⟨Nat, fun k => ⟨[.u, .u, .u, .n .u64 (ofb (b.take k)), .u, .u, .sl (els (V.n .u8) b), .z b.length, .z k, .u, .u, .u, .u, .u, .u, .u, .u, .u, .u, .u, .u, .u], [], om⟩, fun k => k ≤ b.length, fun k => b.length - k, ⟨0, Nat.zero_le _, ?_⟩, ?_⟩
  · simp only [go_sem, kn1, kn2, kn3, kn4, kn5, kn6, kn7, kn8, kn9, kz1, kz2, kz3, kz4, kz5, kz6, kz7, kz8, kz9, kz0, reduceCtorEq, String.reduceEq, kn0, kq1, kq2, kq3, kq4, Int.toNat_natCast, ofb]
  · intro k hk
    have e1 : (8 * (k : Int)).toNat = 8 * k := by omega
    simp only [go_sem, kn1, kn2, kn3, kn4, kn5, kn6, kn7, kn8, kn9, kz1, kz2, kz3, kz4, kz5, kz6, kz7, kz8, kz9, kz0, reduceCtorEq, String.reduceEq, kn0, kq1, kq2, kq3, kq4, Int.toNat_natCast, e1]
    refine ⟨fun h => ⟨by omega, by omega, by omega, by omega, k + 1, by omega, ⟨?_, by omega⟩, by omega⟩, fun h => by rw [List.take_of_length_le (by omega)]⟩
    have hk' : k < b.length := by omega
    have g1 : b.getD k 0 = b[k] := by simp [List.getD_eq_getElem?_getD, hk']
    have g2 : b[k] < 256 := hb _ (List.getElem_mem hk')
    have g3 := ofb_snoc (b.take k) b[k] fun x hx => hb x (List.mem_of_mem_take hx)
    rw [List.length_take, Nat.min_eq_left (by omega)] at g3
    have g4 : b.take (k + 1) = b.take k ++ [b[k]] := by simp
    have g5 := ofb_lt (b.take (k + 1)) fun x hx => hb x (List.mem_of_mem_take hx)
    rw [List.length_take, Nat.min_eq_left (by omega)] at g5
    have g6 : (256 : Nat) ^ (k + 1) ≤ 256 ^ 8 := Nat.pow_le_pow_right (by omega) (by omega)
    have g7 : (256 : Nat) ^ 8 = 18446744073709551616 := by decide
    have g8 : b[k] <<< (8 * k) < 18446744073709551616 := by
      have : b[k] <<< (8 * k) ≤ ofb (b.take (k + 1)) := by rw [g4, ← g3]; exact Nat.right_le_or
      omega
    have g9 : b[k] % 18446744073709551616 = b[k] := Nat.mod_eq_of_lt (by omega)
    rw [g1, g9, Nat.mod_eq_of_lt g8, g3, ← g4]

@[go_sem] noncomputable def c_gen_long : Cn := fn1 tY8 (fun b => 16 ≤ b.length) fun b => vW (ofb (b.take 16))
noncomputable def cx_gen_long : Cx := { T := T, E := E, cs := [(111, c_gen_number)], sch := [(1, false, .take 0 (.take 1 (.take 3 (.take 4 (.alt 2 (.alt 5 (.take 6 (.alt 7 (.done) .no)) .no) .no)))))], ob := [], qs := [111] }
@[go_sem] theorem cx_gen_long_e : cx_gen_long.gs = none ∧ cx_gen_long.md = 0 ∧ cx_gen_long.T = T ∧ cx_gen_long.E = E ∧ cx_gen_long.cs = [(111, c_gen_number)] ∧ cx_gen_long.sch = [(1, false, .take 0 (.take 1 (.take 3 (.take 4 (.alt 2 (.alt 5 (.take 6 (.alt 7 (.done) .no)) .no) .no)))))] ∧ ∀ d, (cx_gen_long.ob).contains d = false := ⟨rfl, rfl, rfl, rfl, rfl, rfl, fun _ => rfl⟩
theorem cok_gen_long : COk Tryz.prog (cx_gen_long) := cok_of rfl (.cons ok_gen_number (.nil)) (.cons (fun _ => fn1_quiet) (.nil)) (.nil)
theorem ok_gen_long : Ok Tryz.prog 178 c_gen_long := by
  refine ok_fn1 cok_gen_long mixed Tryz.func178 rfl (by kernel_rfl) (by kernel_rfl) rfl ?_
  intro b om hw hl
  have hb := (wf_8 hw).2
  simp only [go_sem, Tryz.f178, kn1, kn2, kn3, kn4, kn5, kn6, kn7, kn8, kn9, kz1, kz2, kz3, kz4, kz5, kz6, kz7, kz8, kz9, kz0, reduceCtorEq, String.reduceEq, kn0, kq1, kq2, kq3, kq4, Int.toNat_natCast]
  have g1 := ofb_append (b.take 8) ((b.take 16).drop 8)
  have g2 : b.take 8 ++ (b.take 16).drop 8 = b.take 16 := by
    have := List.take_append_drop 8 (b.take 16)
    rwa [List.take_take, Nat.min_eq_left (by omega)] at this
  have g3 : (b.take 8).length = 8 := by rw [List.length_take]; omega
  have g4 := ofb_lt (b.take 8) fun x hx => hb x (List.mem_of_mem_take hx)
  rw [g2, g3, show (256 : Nat) ^ 8 = 18446744073709551616 by decide] at g1
  rw [g3, show (256 : Nat) ^ 8 = 18446744073709551616 by decide] at g4
  refine ⟨by omega, by omega, ?_, fun _ => ⟨by omega, fun _ => ⟨by omega, by omega⟩⟩⟩
  rw [List.length_drop, List.length_take]; omega

/-- So many words. -/
def mixst (s : Nat) : Nat → Nat
  | 0 => s
  | n + 1 => mstep (mixst s n)
@[go_sem] def c_mix_Words : Cn := fn2i (tN .u64) tZ (fun _ _ => True) (fun _ n => n < 0 ∨ 256 < n) (fun _ _ => .tup [.sl [], .n .u64 0, .z 1]) fun s n => .tup [.sl (els (V.n .u64) ((List.range n.toNat).map fun i => mword (mixst s i))), .n .u64 (mixst s n.toNat), .z 0]
noncomputable def cx_mix_Words : Cx := { T := T, E := E, cs := [(64, c_mix_Word), (65, c_mix_Step)], sch := [], ob := [], qs := [64, 65] }
@[go_sem] theorem cx_mix_Words_e : cx_mix_Words.gs = none ∧ cx_mix_Words.md = 0 ∧ cx_mix_Words.T = T ∧ cx_mix_Words.E = E ∧ cx_mix_Words.cs = [(64, c_mix_Word), (65, c_mix_Step)] ∧ ∀ d, (cx_mix_Words.ob).contains d = false := ⟨rfl, rfl, rfl, rfl, rfl, fun _ => rfl⟩
theorem cok_mix_Words : COk Tryz.prog (cx_mix_Words) := cok_of rfl (.cons ok_mix_Word (.cons ok_mix_Step (.nil))) (.cons (fun _ => fn1_quiet) (.cons (fun _ => fn1_quiet) (.nil))) (.nil)
theorem ok_mix_Words : Ok Tryz.prog 41 c_mix_Words := by
  refine ok_fn2i cok_mix_Words mixed Tryz.func41 rfl (by kernel_rfl) (by kernel_rfl) rfl ?_
  intro s n om hw _
  simp only [go_sem, Tryz.f41, kn1, kn2, kn3, kn4, kn5, kn6, kn7, kn8, kn9, kz1, kz2, kz3, kz4, kz5, kz6, kz7, kz8, kz9, kz0, reduceCtorEq, String.reduceEq, kn0, kq1, kq2, kq3, kq4, Int.toNat_natCast]
  refine ⟨fun h => by rw [if_pos (.inl h)], fun h => ⟨fun h' => by rw [if_pos (.inr h')], fun h' => ?_⟩⟩
  rw [if_neg (by omega)]
  refine ⟨Nat, fun k => ⟨[.n .u64 (mixst s k), .u, .u, .u, .nils, .n .u64 0, .z 0, .row 21 k k, .u, .u, .u, .u, .u, .u, .z n, .z k, .u, .u, .u, .u, .u, .u, .u, .u, .u, .u, .u], [(21, ⟨1, false, els (V.n .u64) ((List.range k).map fun i => mword (mixst s i)), false⟩)], om⟩, fun k => k ≤ n.toNat, fun k => n.toNat - k, ⟨0, Nat.zero_le _, ?_⟩, ?_⟩
  · simp only [go_sem, kn1, kn2, kn3, kn4, kn5, kn6, kn7, kn8, kn9, kz1, kz2, kz3, kz4, kz5, kz6, kz7, kz8, kz9, kz0, reduceCtorEq, String.reduceEq, kn0, kq1, kq2, kq3, kq4, Int.toNat_natCast, mixst, List.range_zero]
  · intro k hk
    simp only [go_sem, kn1, kn2, kn3, kn4, kn5, kn6, kn7, kn8, kn9, kz1, kz2, kz3, kz4, kz5, kz6, kz7, kz8, kz9, kz0, reduceCtorEq, String.reduceEq, kn0, kq1, kq2, kq3, kq4, Int.toNat_natCast, List.length_map, List.length_range]
    refine ⟨fun g _ => ⟨by omega, fun _ => ⟨by omega, k + 1, by omega, ⟨⟨rfl, rfl, by omega⟩, by rw [List.range_succ, List.map_append]; rfl⟩, by omega⟩⟩, fun g => ⟨?_, by rw [show k = n.toNat by omega]⟩⟩
    rw [List.take_of_length_le (by simp), show k = n.toNat by omega]
end Go.Proofs.YtggpbjhmpipplaaGreat.I
