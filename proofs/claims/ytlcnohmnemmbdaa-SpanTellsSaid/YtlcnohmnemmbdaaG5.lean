/- Texts of the ideal machine, or of plain numbers, one behind the other: Ref1, Ref2, Ref4. -/
import Derived.Test.YtlcnohmnemmbdaaG3
import Derived.Test.YtlcnohmnemmbdaaG1
import Derived.Test.YtlcnohmnemmbdaaG4
/- The references of layers 1 and 2: Bits, Trim, Parts, At, Words. -/
namespace Go.Proofs.Ytlcnohmnemmbdaa.I
open Go
open Nat renaming reduceEqDiff → kn1, reduceBEq → kn2, reducePow → kn3, reduceMod → kn4, reduceAdd → kn5, reduceSub → kn6, reduceMul → kn7, reduceDiv → kn8, reduceLeDiff → kn9, reduceLT → kn0, zero_lt_one → kq1, zero_add → kq2, zero_le → kq3, le_refl → kq4
open Int renaming reduceToNat → kz1, reduceAdd → kz2, reduceSub → kz3, reduceMul → kz4, reduceDiv → kz5, reduceMod → kz6, reduceLE → kz7, reduceLT → kz8, reduceNeg → kz9, reduceEq → kz0
set_option maxRecDepth 10000
set_option linter.unusedSimpArgs false
set_option linter.unusedVariables false

/-- The parts of a polynomial. -/
def vB (n : Nat) : V := .sl (els V.z (pb n))
@[go_sem] theorem vB_eq (n : Nat) : vB n = .sl (els V.z (pb n)) := rfl
theorem pb_inj {a b : Nat} : pb a = pb b ↔ a = b := by
  constructor
  · intro h; rw [← bv_pb a, h, bv_pb]
  · rintro rfl; rfl
@[go_sem] theorem pb_inj' (a b : Nat) : (pb a = pb b) = (a = b) := propext pb_inj
@[go_sem] theorem good_pb' (a : Nat) : good (pb a) = True := eq_true (good_pb a)
@[go_sem] theorem good_bits' (k a : Nat) : good (bitsL k a) = True := eq_true (good_bitsL k a)
@[go_sem] theorem good_nil' : good [] = True := eq_true good_nil
theorem wfs_good {l : List Int} (h : good l) : wfs (els V.z l) := by
  rw [wfs_iff]
  intro x hx
  obtain ⟨y, hy, rfl⟩ := List.mem_map.1 hx
  rcases h y hy with rfl | rfl <;> simp [V.wf, i64ok]
@[go_sem] theorem wfs_pb (n : Nat) : wfs (els V.z (pb n)) = True := eq_true (wfs_good (good_pb n))
@[go_sem] theorem wfs_bits (k n : Nat) : wfs (els V.z (bitsL k n)) = True := eq_true (wfs_good (good_bitsL k n))
theorem bv_nil : bv [] = 0 := rfl
attribute [go_sem] bv_pb bv_bitsL pb_len bitsL_len bits_take bv_nil

@[go_sem] def c_ref01_Bits : Cn := fn1 (tN .u64) (fun _ => True) fun x => .sl (els V.z (bitsL 64 x))
noncomputable def cx_ref01_Bits : Cx := { T := T, E := E, cs := [], sch := [], ob := [], qs := [] }
@[go_sem] theorem cx_ref01_Bits_e : cx_ref01_Bits.gs = none ∧ cx_ref01_Bits.md = 0 ∧ cx_ref01_Bits.T = T ∧ cx_ref01_Bits.E = E ∧ cx_ref01_Bits.cs = [] ∧ ∀ d, (cx_ref01_Bits.ob).contains d = false := ⟨rfl, rfl, rfl, rfl, rfl, fun _ => rfl⟩
theorem cok_ref01_Bits : COk Try.prog (cx_ref01_Bits) := cok_of rfl (.nil) (.nil) (.nil)
theorem ok_ref01_Bits : Ok Try.prog 61 c_ref01_Bits := by
  refine ok_fn1 cok_ref01_Bits mixed Try.func61 rfl (by kernel_rfl) (by kernel_rfl) rfl ?_
  intro x om hw _
  simp only [go_sem, Try.f61, kn1, kn2, kn3, kn4, kn5, kn6, kn7, kn8, kn9, kz1, kz2, kz3, kz4, kz5, kz6, kz7, kz8, kz9, kz0, reduceCtorEq, String.reduceEq]
  refine ⟨Nat, fun k => ⟨[.n .u64 (x / 2 ^ k), .u, .u, .row 15 k k, .z k, .u, .u, .u, .u, .u, .u, .u, .u, .u, .u, .u, .u, .u, .u], [(15, ⟨1, false, els V.z (bitsL k x), false⟩)], om⟩, fun k => k ≤ 64, fun k => 64 - k, ⟨0, by omega, ?_⟩, ?_⟩
  · simp only [go_sem, kn1, kn2, kn3, kn4, kn5, kn6, kn7, kn8, kn9, kz1, kz2, kz3, kz4, kz5, kz6, kz7, kz8, kz9, kz0, reduceCtorEq, String.reduceEq, Nat.pow_zero, Nat.div_one]
    rfl
  · intro k hk
    simp only [go_sem, kn1, kn2, kn3, kn4, kn5, kn6, kn7, kn8, kn9, kz1, kz2, kz3, kz4, kz5, kz6, kz7, kz8, kz9, kz0, reduceCtorEq, String.reduceEq, bitI_mod, bits_snoc]
    refine ⟨fun h => ⟨by omega, by omega, by omega, by omega, k + 1, by omega, ⟨⟨by rw [Nat.pow_succ, Nat.div_div_eq_div_mul], rfl, by omega⟩, rfl⟩, by omega⟩, fun h => ?_⟩
    obtain rfl : k = 64 := by omega
    rfl

@[go_sem] def c_ref02_Trim : Cn := fn1 tZs (fun l => good l ∧ l.length ≤ 1099511627776) fun l => vB (bv l)
@[go_sem] def c_ref02_Parts : Cn := fn1 tU (fun xs => xs.length ≤ 4294967296) fun xs => vB (pv xs)
@[go_sem] def c_ref02_At : Cn := fn2 tZs tZ (fun l _ => good l) fun l i => .z (tb (bv l) i)
theorem take_snoc_getD {α : Type} {xs : List α} {k : Nat} (hk : k < xs.length) (d : α) : xs.take (k + 1) = xs.take k ++ [xs.getD k d] := by
  rw [List.take_succ_eq_append_getElem hk]; simp [List.getD, hk]

@[go_sem] def c_ref02_Words : Cn := fn2 tU tU (fun _ _ => True) fun xs ys => .b (decide (xs = ys))
end Go.Proofs.Ytlcnohmnemmbdaa.I
/- The references of layers 1 and 2: Word, Of, Add, Up, Mul. -/
namespace Go.Proofs.Ytlcnohmnemmbdaa.I
open Go
open Nat renaming reduceEqDiff → kn1, reduceBEq → kn2, reducePow → kn3, reduceMod → kn4, reduceAdd → kn5, reduceSub → kn6, reduceMul → kn7, reduceDiv → kn8, reduceLeDiff → kn9, reduceLT → kn0, zero_lt_one → kq1, zero_add → kq2, zero_le → kq3, le_refl → kq4
open Int renaming reduceToNat → kz1, reduceAdd → kz2, reduceSub → kz3, reduceMul → kz4, reduceDiv → kz5, reduceMod → kz6, reduceLE → kz7, reduceLT → kz8, reduceNeg → kz9, reduceEq → kz0
set_option maxRecDepth 10000
set_option linter.unusedSimpArgs false
set_option linter.unusedVariables false

theorem shr_low (n m k : Nat) : n >>> m % 2 ^ (k + 1) = 2 * (n >>> (m + 1) % 2 ^ k) + (if n.testBit m then 1 else 0) := by
  rw [Nat.shiftRight_succ, Nat.pow_succ, Nat.mul_comm (2 ^ k) 2, Nat.mod_mul]
  have : n >>> m % 2 = if n.testBit m then 1 else 0 := by rw [← shr_and, Nat.and_one_is_mod]
  omega

@[go_sem] def c_ref01_Word : Cn := fn2 tZs tZ (fun l i => good l ∧ 0 ≤ i ∧ i ≤ 1099511627776) fun l i => .n .u64 (bv l >>> i.toNat % 18446744073709551616)
noncomputable def cx_ref01_Word : Cx := { T := T, E := E, cs := [], sch := [], ob := [], qs := [] }
@[go_sem] theorem cx_ref01_Word_e : cx_ref01_Word.gs = none ∧ cx_ref01_Word.md = 0 ∧ cx_ref01_Word.T = T ∧ cx_ref01_Word.E = E ∧ cx_ref01_Word.cs = [] ∧ ∀ d, (cx_ref01_Word.ob).contains d = false := ⟨rfl, rfl, rfl, rfl, rfl, fun _ => rfl⟩
theorem cok_ref01_Word : COk Try.prog (cx_ref01_Word) := cok_of rfl (.nil) (.nil) (.nil)
theorem ok_ref01_Word : Ok Try.prog 60 c_ref01_Word := by
  refine ok_fn2 cok_ref01_Word mixed Try.func60 rfl (by kernel_rfl) (by kernel_rfl) rfl ?_
  intro l i om hw ⟨hg, h0, hi⟩
  obtain ⟨f, rfl⟩ := Int.eq_ofNat_of_zero_le h0
  simp only [go_sem, Try.f60, kn1, kn2, kn3, kn4, kn5, kn6, kn7, kn8, kn9, kz1, kz2, kz3, kz4, kz5, kz6, kz7, kz8, kz9, kz0, reduceCtorEq, String.reduceEq]
  refine ⟨Nat, fun k => ⟨[.sl (els V.z l), .z f, .u, .u, .u, .n .u64 (bv l >>> (f + k) % 2 ^ (64 - k)), .z ((k : Int) - 1), .u, .u, .u, .u, .u, .u, .u, .u, .u, .u, .u, .u, .u, .u, .u, .u, .u, .u, .u, .u, .u, .u], [], om⟩, fun k => k ≤ 64, fun k => k, ⟨64, by omega, ?_⟩, ?_⟩
  · simp only [go_sem, kn1, kn2, kn3, kn4, kn5, kn6, kn7, kn8, kn9, kz1, kz2, kz3, kz4, kz5, kz6, kz7, kz8, kz9, kz0, reduceCtorEq, String.reduceEq, Nat.mod_one]
  · intro k hk
    simp only [go_sem, kn1, kn2, kn3, kn4, kn5, kn6, kn7, kn8, kn9, kz1, kz2, kz3, kz4, kz5, kz6, kz7, kz8, kz9, kz0, reduceCtorEq, String.reduceEq]
    have e : 0 < k → ((f : Int) + ((k : Int) - 1)).toNat = f + (k - 1) := fun h => by omega
    have lt : bv l >>> (f + k) % 2 ^ (64 - k) < 2 ^ (64 - k) := Nat.mod_lt _ (Nat.pow_pos (by omega))
    have step : 0 < k → bv l >>> (f + (k - 1)) % 2 ^ (64 - (k - 1)) = 2 * (bv l >>> (f + k) % 2 ^ (64 - k)) + (if (bv l).testBit (f + (k - 1)) then 1 else 0) := fun h => by
      have := shr_low (bv l) (f + (k - 1)) (64 - k)
      rw [show f + (k - 1) + 1 = f + k by omega, show 64 - k + 1 = 64 - (k - 1) by omega] at this
      exact this
    have p2 : 0 < k → 2 * 2 ^ (64 - k) ≤ 18446744073709551616 := fun h => by
      rw [← Nat.pow_succ', show (18446744073709551616 : Nat) = 2 ^ 64 by rfl]
      exact Nat.pow_le_pow_right (by omega) (by omega)
    refine ⟨fun h => ⟨by omega, fun h1 => ⟨by omega, by omega, by omega, k - 1, by omega, ⟨?_, by omega⟩, by omega⟩, fun h1 => ⟨by omega, k - 1, by omega, ⟨?_, by omega⟩, by omega⟩⟩, fun h => ?_⟩
    · rw [e (by omega), step (by omega), getD_bv hg]
      unfold bitI
      have := p2 (by omega)
      cases (bv l).testBit (f + (k - 1))
      · simp; omega
      · simp; omega
    · rw [step (by omega)]
      have : (bv l).testBit (f + (k - 1)) = false := testBit_bl (by have := bl_bv l; omega)
      have := p2 (by omega)
      simp [*]; omega
    · obtain rfl : k = 0 := by omega
      rfl

@[go_sem] def c_ref02_Of : Cn := fn1 tZs (fun l => good l ∧ l.length ≤ 1099511627) fun l => vP (bv l)
@[go_sem] def c_ref02_Add : Cn := fn2 tZs tZs (fun l m => good l ∧ good m ∧ l.length ≤ 1099511627 ∧ m.length ≤ 1099511627) fun l m => vB (bv l ^^^ bv m)
@[go_sem] def c_ref02_Up : Cn := fn2 tZs tZ (fun l n => good l ∧ l.length ≤ 1099511627 ∧ n ≤ 1099511627) fun l n => vB (bv l <<< n.toNat)
@[go_sem] def c_ref02_Mul : Cn := fn2 tZs tZs (fun l m => good l ∧ good m ∧ l.length ≤ 1099511627 ∧ m.length ≤ 1099511627) fun l m => vB (cm (bv l) (bv m))
end Go.Proofs.Ytlcnohmnemmbdaa.I
/- The references of layers 1 and 4: List, Len; Pow, Plain, Irreducible. -/
namespace Go.Proofs.Ytlcnohmnemmbdaa.I
open Go
open Nat renaming reduceEqDiff → kn1, reduceBEq → kn2, reducePow → kn3, reduceMod → kn4, reduceAdd → kn5, reduceSub → kn6, reduceMul → kn7, reduceDiv → kn8, reduceLeDiff → kn9, reduceLT → kn0, zero_lt_one → kq1, zero_add → kq2, zero_le → kq3, le_refl → kq4
open Int renaming reduceToNat → kz1, reduceAdd → kz2, reduceSub → kz3, reduceMul → kz4, reduceDiv → kz5, reduceMod → kz6, reduceLE → kz7, reduceLT → kz8, reduceNeg → kz9, reduceEq → kz0
set_option maxRecDepth 10000
set_option linter.unusedSimpArgs false
set_option linter.unusedVariables false

/-- A row of its own: the bits of a word. -/
noncomputable def c_ref01_Bits_raw : Cn
  | [a], om, K => @so _ ((tN .u64).dec a) ⟨fun x => ∀ id, om id = none → ∀ l : List Int, 64 ≤ l.length → l.length ≤ longest → l.take 64 = bitsL 64 x → K.k (.ow id 0 64 l.length) (om.put id (els V.z l))⟩
  | _, _, _ => False
attribute [go_sem] c_ref01_Bits_raw.eq_1
theorem c_ref01_Bits_raw_mono : Mono c_ref01_Bits_raw := by
  intro args om K K' hK h
  unfold c_ref01_Bits_raw at h ⊢
  split at h
  · exact mono_so (fun x h id hid l h1 h2 h3 => hK _ _ (h id hid l h1 h2 h3)) h
  · exact h.elim
theorem quiet_ref01_Bits_raw : Quiet c_ref01_Bits_raw := by
  intro args om K h
  unfold c_ref01_Bits_raw at h ⊢
  split at h
  · exact mono_so (fun x h id hid l h1 h2 h3 => ⟨.put hid (.refl _), h id hid l h1 h2 h3⟩) h
  · exact h.elim
def rowT (id cap : Nat) : Nat → V
  | 0 => .lit []
  | k + 1 => .ow id 0 (k + 1) cap
def rowO (om : Om) (id : Nat) (l : List V) : Nat → Om
  | 0 => om
  | _ + 1 => om.put id l
attribute [go_sem] rowT.eq_1 rowT.eq_2 rowO.eq_1 rowO.eq_2
noncomputable def cx_ref01_Bits_raw : Cx := { T := T, E := E, cs := [], sch := [], ob := [15], qs := [], md := 2 }
@[go_sem] theorem cx_ref01_Bits_raw_e : cx_ref01_Bits_raw.gs = none ∧ cx_ref01_Bits_raw.md = 2 ∧ cx_ref01_Bits_raw.T = T ∧ cx_ref01_Bits_raw.E = E ∧ cx_ref01_Bits_raw.cs = [] ∧ cx_ref01_Bits_raw.ob = [15] := ⟨rfl, rfl, rfl, rfl, rfl, rfl⟩
theorem cok_ref01_Bits_raw : COk Try.prog (cx_ref01_Bits_raw) := cok_of rfl (.nil) (.nil) (.nil)
theorem ok_ref01_Bits_raw : Ok Try.prog 61 c_ref01_Bits_raw := by
  refine ok_of_body1 cok_ref01_Bits_raw mixed Try.func61 rfl (by kernel_rfl) (by kernel_rfl) c_ref01_Bits_raw_mono fun args om Q hw h => ?_
  unfold c_ref01_Bits_raw at h
  split at h <;> first | exact h.elim | skip
  rename_i om _ _ _ a
  replace h := so_inv h; obtain ⟨x, hx, h⟩ := h
  obtain rfl := (tN .u64).h2 _ _ hx
  simp only [go_sem, Try.f61, kn1, kn2, kn3, kn4, kn5, kn6, kn7, kn8, kn9, kz1, kz2, kz3, kz4, kz5, kz6, kz7, kz8, kz9, kz0, reduceCtorEq, String.reduceEq]
  refine ⟨Nat × Nat × List Int, fun q => ⟨[.n .u64 (x / 2 ^ q.1), .u, .nils, rowT q.2.1 q.2.2.length q.1, .z q.1, .u, .u, .u, .u, .u, .u, .u, .u, .u, .u, .u, .u, .u, .u], [], rowO om q.2.1 (els V.z q.2.2) q.1⟩,
    fun q => q.1 ≤ 64 ∧ (0 < q.1 → om q.2.1 = none ∧ q.1 ≤ q.2.2.length ∧ q.2.2.length ≤ 9223372036854775807 ∧ q.2.2.take q.1 = bitsL q.1 x), fun q => 64 - q.1, ⟨(0, 0, []), ⟨by omega, by simp⟩, ?_⟩, ?_⟩
  · simp only [go_sem, kn1, kn2, kn3, kn4, kn5, kn6, kn7, kn8, kn9, kz1, kz2, kz3, kz4, kz5, kz6, kz7, kz8, kz9, kz0, reduceCtorEq, String.reduceEq, Nat.pow_zero, Nat.div_one]
  · rintro ⟨k, id, l⟩ ⟨h1, h2⟩
    simp only at h1 h2
    cases k with
    | zero =>
      simp only [go_sem, kn1, kn2, kn3, kn4, kn5, kn6, kn7, kn8, kn9, kz1, kz2, kz3, kz4, kz5, kz6, kz7, kz8, kz9, kz0, reduceCtorEq, String.reduceEq, Nat.div_one]
      refine ⟨by omega, by omega, fun _ id hid cap hc1 hc2 => ⟨(1, id, ((x % 2 : Nat) : Int) :: List.replicate (cap - 1) 0), ⟨by show 1 ≤ 64; omega, fun _ => ⟨hid, by show 1 ≤ _ + 1; omega, by show _ + 1 ≤ _; simp; omega, ?_⟩⟩, ⟨⟨by show _ = x / 2 ^ 1; rw [Nat.pow_one], ?_, rfl⟩, ?_, rfl⟩, by show 64 - 1 < 64; omega⟩⟩
      · show [((x % 2 : Nat) : Int)] = bitsL 1 x
        have := bits_snoc 0 x
        rw [← this]
        show [((x % 2 : Nat) : Int)] = [bitI x 0]
        have e := bitI_mod x 0
        rw [Nat.pow_zero, Nat.div_one] at e
        rw [e]
      · show V.ow id 0 1 cap = V.ow id 0 1 (List.replicate (cap - 1) 0).length.succ
        congr 1; simp; omega
      · show OmKept (om.put id (els V.z (((x % 2 : Nat) : Int) :: List.replicate (cap - 1) 0))) (om.put id (flat (els V.z (((x % 2 : Nat) : Int) :: List.replicate (cap - 1) 0))))
        rw [flat_els']
        exact .refl _
    | succ k =>
      obtain ⟨h3, h4, h5, h6⟩ := h2 (by omega)
      have f1 : (k + 1 ≤ l.length) = True := eq_true h4
      have b := bits_snoc (k + 1) x
      rw [← bitI_mod, ← h6] at b
      simp only [go_sem, kn1, kn2, kn3, kn4, kn5, kn6, kn7, kn8, kn9, kz1, kz2, kz3, kz4, kz5, kz6, kz7, kz8, kz9, kz0, reduceCtorEq, String.reduceEq, f1]
      refine ⟨fun g1 => ⟨by omega, by omega, ⟨by omega, by omega⟩, fun g2 => ⟨by omega, (k + 1 + 1, id, l.take (k + 1) ++ [((x / 2 ^ (k + 1) % 2 : Nat) : Int)] ++ l.drop (k + 1 + 1)), ⟨by show k + 1 + 1 ≤ 64; omega, fun _ => ⟨h3, ?_, ?_, ?_⟩⟩, ⟨⟨?_, ?_, by show _ = ((k + 1 + 1 : Nat) : Int); omega⟩, ?_, rfl⟩, by show 64 - (k + 1 + 1) < _; omega⟩, fun g2 id' hid' cap' g3 g4 => ⟨by omega, (k + 1 + 1, id', l.take (k + 1) ++ [((x / 2 ^ (k + 1) % 2 : Nat) : Int)] ++ List.replicate (cap' - (k + 1 + 1)) 0), ⟨by show k + 1 + 1 ≤ 64; omega, fun _ => ⟨(new_ne hid').2.2, ?_, ?_, ?_⟩⟩, ⟨⟨?_, ?_, by show _ = ((k + 1 + 1 : Nat) : Int); omega⟩, ?_, rfl⟩, by show 64 - (k + 1 + 1) < _; omega⟩⟩, fun g1 => ?_⟩
      · show k + 1 + 1 ≤ (l.take (k + 1) ++ [_] ++ l.drop (k + 1 + 1)).length
        simp; omega
      · show (l.take (k + 1) ++ [_] ++ l.drop (k + 1 + 1)).length ≤ _
        simp; omega
      · show (l.take (k + 1) ++ [_] ++ l.drop (k + 1 + 1)).take (k + 1 + 1) = bitsL (k + 1 + 1) x
        rw [List.take_left' (by simp; omega), ← b]
      · show _ = x / 2 ^ (k + 1 + 1)
        rw [Nat.pow_succ 2 (k + 1), Nat.div_div_eq_div_mul]
      · show V.ow id 0 (k + 1 + 1) l.length = V.ow id 0 (k + 1 + 1) (l.take (k + 1) ++ [_] ++ l.drop (k + 1 + 1)).length
        congr 1; simp; omega
      · show OmKept (om.put id (els V.z (l.take (k + 1) ++ [_] ++ l.drop (k + 1 + 1)))) _
        simp only [Nat.zero_add, Nat.mul_one]
        rw [← els_append, ← els_append]
        exact .refl _
      · show k + 1 + 1 ≤ (l.take (k + 1) ++ [_] ++ List.replicate (cap' - (k + 1 + 1)) 0).length
        simp; omega
      · show (l.take (k + 1) ++ [_] ++ List.replicate (cap' - (k + 1 + 1)) 0).length ≤ _
        simp; omega
      · show (l.take (k + 1) ++ [_] ++ List.replicate (cap' - (k + 1 + 1)) 0).take (k + 1 + 1) = bitsL (k + 1 + 1) x
        rw [List.take_left' (by simp; omega), ← b]
      · show _ = x / 2 ^ (k + 1 + 1)
        rw [Nat.pow_succ 2 (k + 1), Nat.div_div_eq_div_mul]
      · show V.ow id' 0 (k + 1 + 1) cap' = V.ow id' 0 (k + 1 + 1) (l.take (k + 1) ++ [_] ++ List.replicate (cap' - (k + 1 + 1)) 0).length
        congr 1; simp; omega
      · show OmKept (om.put id' (els V.z (l.take (k + 1) ++ [_] ++ List.replicate (cap' - (k + 1 + 1)) 0))) _
        simp only [Nat.mul_one]
        rw [← els_append, ← els_append]
        exact .over h3 _ _
      · have e : k + 1 = 64 := by omega
        rw [e] at h6 h4 ⊢
        exact h id h3 l h4 h5 h6

theorem bits_two (x : Nat) : bitsL 64 (x % 18446744073709551616) ++ bitsL 64 (x / 18446744073709551616) = bitsL 128 x := by
  apply List.ext_getElem
  · simp [bitsL]
  · intro i h1 h2
    simp only [bitsL_len, List.length_append] at h1 h2
    rw [List.getElem_append]
    split
    · rename_i h; simp only [bitsL_len] at h
      simp only [bitsL, List.getElem_map, List.getElem_range, bitI]
      rw [show (18446744073709551616 : Nat) = 2 ^ 64 from rfl, Nat.testBit_mod_two_pow]
      simp [h]
    · rename_i h; simp only [bitsL_len] at h
      simp only [bitsL, List.getElem_map, List.getElem_range, bitI, List.length_map, List.length_range]
      rw [show (18446744073709551616 : Nat) = 2 ^ 64 from rfl, Nat.testBit_div_two_pow, show i - 64 + 64 = i by omega]
@[go_sem] noncomputable def c_ref01_List : Cn := fn1 tW (fun _ => True) fun x => .sl (els V.z (bitsL 128 x))
noncomputable def cx_ref01_List : Cx := { T := T, E := E, cs := [(61, c_ref01_Bits_raw)], sch := [(1, false, .take 0 (.take 3 (.alt 1 (.alt 2 (.alt 4 (.alt 5 (.alt 6 (.take 7 (.done)) .no) .no) .no) (.alt 4 (.alt 2 (.alt 5 (.alt 6 (.take 7 (.done)) .no) .no) .no) (.no))) (.alt 4 (.alt 1 (.alt 2 (.alt 5 (.alt 6 (.take 7 (.done)) .no) .no) .no) .no) (.no)))))], ob := [9], qs := [61], md := 1 }
@[go_sem] theorem cx_ref01_List_e : cx_ref01_List.gs = none ∧ cx_ref01_List.md = 1 ∧ cx_ref01_List.T = T ∧ cx_ref01_List.E = E ∧ cx_ref01_List.cs = [(61, c_ref01_Bits_raw)] ∧ cx_ref01_List.sch = [(1, false, .take 0 (.take 3 (.alt 1 (.alt 2 (.alt 4 (.alt 5 (.alt 6 (.take 7 (.done)) .no) .no) .no) (.alt 4 (.alt 2 (.alt 5 (.alt 6 (.take 7 (.done)) .no) .no) .no) (.no))) (.alt 4 (.alt 1 (.alt 2 (.alt 5 (.alt 6 (.take 7 (.done)) .no) .no) .no) .no) (.no)))))] ∧ cx_ref01_List.ob = [9] := ⟨rfl, rfl, rfl, rfl, rfl, rfl, rfl⟩
theorem cok_ref01_List : COk Try.prog (cx_ref01_List) := cok_of rfl (.cons ok_ref01_Bits_raw (.nil)) (.cons (fun _ => quiet_ref01_Bits_raw) (.nil)) (.nil)
theorem ok_ref01_List : Ok Try.prog 50 c_ref01_List := by
  refine ok_fn1 cok_ref01_List mixed Try.func50 rfl (by kernel_rfl) (by kernel_rfl) rfl ?_
  intro x om hw _
  have hx := wf_w hw
  simp (config := {contextual := true}) only [go_sem, Try.f50, kn1, kn2, kn3, kn4, kn5, kn6, kn7, kn8, kn9, kz1, kz2, kz3, kz4, kz5, kz6, kz7, kz8, kz9, kz0, reduceCtorEq, String.reduceEq, new_iff, and_imp]
  repeat' (first | with_reducible refine And.intro ?_ ?_ | with_reducible intro _)
  all_goals first
    | omega
    | (rw [List.take_left' (by simp [bitsL_len])]; exact bits_two x)
    | (simp only [List.length_append, bitsL_len]; omega)
    | (refine OmKept.delr (by assumption) ?_
       repeat' (first | exact OmKept.refl _ | refine OmKept.put (by assumption) ?_))
end Go.Proofs.Ytlcnohmnemmbdaa.I
