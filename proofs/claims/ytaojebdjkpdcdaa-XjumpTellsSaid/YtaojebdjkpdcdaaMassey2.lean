/- massey: Rule, Length, Least, Goes. -/
import Derived.Test.YtaojebdjkpdcdaaMassey1
namespace Go.Proofs.Ytaojebdjkpdcdaa.I
open Go
set_option maxRecDepth 10000
set_option linter.unusedSimpArgs false
set_option linter.unusedVariables false

/-- Is it a rule, up to a place? -/
instance (l : List Bool) (p : Nat) : Decidable (Ru l p) :=
  decidable_of_iff (p ≠ 0 ∧ ∀ i, i < l.length - (bl p - 1) → od p l i (bl p - 1) = false) (by
    unfold Ru
    constructor
    · rintro ⟨h, g⟩; exact ⟨h, fun i hi => g i (by omega)⟩
    · rintro ⟨h, g⟩; exact ⟨h, fun i hi => g i (by omega)⟩)

def c_massey_Rule : Cn := fn2 tU tBs (fun xs l => xs.length ≤ 4294967296 ∧ l.length ≤ 1099511627776) fun xs l => .b (decide (Ru l (pv xs)))
noncomputable def c_massey_Length : Cn := fn1 tBs (fun l => l.length ≤ 1099511627776) fun l => .z (if l.length ≤ 2048 then lc l else -1)
theorem ofB_succ (f : Nat → Bool) (n : Nat) : ofB f (n + 1) = ofB f n ^^^ (if f n = true then 2 ^ n else 0) := rfl
theorem bl_ofB (f : Nat → Bool) (n : Nat) : bl (ofB f n) ≤ n := bl_le_of fun k hk => by
  rw [testBit_ofB]; have : ¬ k < n := by omega
  simp [this]

noncomputable def c_massey_Least : Cn := fn1i tBs (fun l => l.length ≤ 1099511627776) (fun l => l.length ≤ 2048 ∧ 2 * lc l ≤ l.length) (fun l => .tup [vP (lst l), .b true]) (fun _ => .tup [vP 0, .b false])
noncomputable def cx_massey_Least : Cx := { T := T, E := E, cs := [(35, c_gfp_X), (51, c_gfp_Add), (70, c_gfp_Bit), (89, c_massey_search)], sch := [], ob := [], qs := [35, 51, 70, 89] }
@[go_sem] theorem cx_massey_Least_md : cx_massey_Least.md = 0 := rfl
@[go_sem] theorem cx_massey_Least_T : cx_massey_Least.T = T := rfl
@[go_sem] theorem cx_massey_Least_E : cx_massey_Least.E = E := rfl
@[go_sem] theorem cx_massey_Least_cs : cx_massey_Least.cs = [(35, c_gfp_X), (51, c_gfp_Add), (70, c_gfp_Bit), (89, c_massey_search)] := rfl
@[go_sem] theorem cx_massey_Least_ob (d : Nat) : (cx_massey_Least.ob).contains d = false := rfl
theorem cok_massey_Least : COk Try.prog (cx_massey_Least) := cok_of rfl (.cons ok_gfp_X (.cons ok_gfp_Add (.cons ok_gfp_Bit (.cons ok_massey_search (.nil))))) (.cons (fun _ => fn1_quiet) (.cons (fun _ => fn2_quiet) (.cons (fun _ => fn2_quiet) (.cons (fun _ => fn1_quiet) (.nil))))) (.nil)
theorem ok_massey_Least : Ok Try.prog 77 c_massey_Least := by
  refine ok_fn1i cok_massey_Least mixed Try.func77 rfl (by kernel_rfl) (by kernel_rfl) rfl ?_
  intro l om hw hl
  have hn := lc_le l
  have hlst : lst l = revP (lc l) (bmL l).c := rfl
  have hlc : lc l = (bmL l).n := rfl
  have hbl := (bm_ok (rv l) l.length).ok.2.1
  have ebm : bm (rv l) l.length = bmL l := rfl
  rw [ebm, ← hlc] at hbl
  obtain ⟨⟨c, b, n, g⟩, ht⟩ : ∃ t, bmL l = t := ⟨_, rfl⟩
  rw [ht] at hlst hlc hbl
  simp only at hlst hlc hbl
  rw [hlc] at hn hbl
  rw [hlst, hlc]
  simp only [go_sem, Try.f77, Nat.reduceEqDiff, Nat.reduceBEq, Int.reduceToNat, Nat.reducePow, Nat.reduceMod, Nat.reduceAdd, Nat.reduceSub, Nat.reduceMul, Nat.reduceDiv, Nat.reduceLeDiff, Int.reduceAdd, Int.reduceSub, Int.reduceMul, Int.reduceDiv, Int.reduceMod, Int.reduceLE, Int.reduceLT, Int.reduceNeg, Int.reduceEq, Int.cast_ofNat_Int, Int.natCast_zero, List.contains_cons, List.contains_nil, Bool.or_false, Bool.or_true, Bool.true_or, reduceCtorEq, or_false, or_true, false_or, true_or, and_false, false_and, ne_eq, List.take_zero, List.take_succ_cons, List.take_nil, List.drop_zero, List.drop_succ_cons, List.drop_nil, decide_true, decide_false, c_gfp_X, c_gfp_Add, c_gfp_Bit, c_massey_search, bmV, ht]
  refine ⟨fun h => ?_, fun h => ⟨by omega, fun _ => ⟨by omega, by omega, by omega, fun h1 => ?_, fun h1 => ⟨by omega, ?_⟩⟩⟩⟩
  · rw [if_neg (by omega)]
  · rw [if_neg (by omega)]
  · rw [if_pos (by omega)]
    refine ⟨by omega, Nat, fun k => ⟨[.sl (els V.b l), .u, .u, .b false, .ref 4 1 4 0 0, .sl (els (V.n .u64) (wd (ofB (fun j => c.testBit (n - j)) k))), .u, .u, .u, .u, .u, .u, .u, .u, .u, .u, .u, .u, .u, .u, .z (n + 1), .z k, .u, .u, .u, .u, .u, .u, .u, .u, .u, .u, .u, .u, .u, .u, .u, .u], [(4, ⟨4, true, [.agg [.sl (els (V.n .u64) (wd c)), .sl (els (V.n .u64) (wd b)), .z n, .z g]], false⟩)], om⟩, fun k => k ≤ n + 1, fun k => n + 1 - k, ⟨0, Nat.zero_le _, ?_⟩, ?_⟩
    · simp only [go_sem, Nat.reduceEqDiff, Nat.reduceBEq, Int.reduceToNat, Nat.reducePow, Nat.reduceMod, Nat.reduceAdd, Nat.reduceSub, Nat.reduceMul, Nat.reduceDiv, Nat.reduceLeDiff, Int.reduceAdd, Int.reduceSub, Int.reduceMul, Int.reduceDiv, Int.reduceMod, Int.reduceLE, Int.reduceLT, Int.reduceNeg, Int.reduceEq, Int.cast_ofNat_Int, Int.natCast_zero, List.contains_cons, List.contains_nil, Bool.or_false, Bool.or_true, Bool.true_or, reduceCtorEq, or_false, or_true, false_or, true_or, and_false, false_and, ne_eq, List.take_zero, List.take_succ_cons, List.take_nil, List.drop_zero, List.drop_succ_cons, List.drop_nil, decide_true, decide_false, c_gfp_X, c_gfp_Add, c_gfp_Bit, c_massey_search, ofB]
    · intro k hk
      have hb := tb_one (n := c) (i := (n : Int) - k)
      have st := ofB_succ (fun j => c.testBit (n - j)) k
      have b1 := bl_ofB (fun j => c.testBit (n - j)) k
      simp only [go_sem, Nat.reduceEqDiff, Nat.reduceBEq, Int.reduceToNat, Nat.reducePow, Nat.reduceMod, Nat.reduceAdd, Nat.reduceSub, Nat.reduceMul, Nat.reduceDiv, Nat.reduceLeDiff, Int.reduceAdd, Int.reduceSub, Int.reduceMul, Int.reduceDiv, Int.reduceMod, Int.reduceLE, Int.reduceLT, Int.reduceNeg, Int.reduceEq, Int.cast_ofNat_Int, Int.natCast_zero, List.contains_cons, List.contains_nil, Bool.or_false, Bool.or_true, Bool.true_or, reduceCtorEq, or_false, or_true, false_or, true_or, and_false, false_and, ne_eq, List.take_zero, List.take_succ_cons, List.take_nil, List.drop_zero, List.drop_succ_cons, List.drop_nil, decide_true, decide_false, c_gfp_X, c_gfp_Add, c_gfp_Bit, c_massey_search]
      refine ⟨fun h2 => ?_, fun h2 => ?_⟩
      · have hb := hb (by omega)
        rw [show ((n : Int) - k).toNat = n - k by omega] at hb
        have eu : upP 1 k = 2 ^ k := by unfold upP; rw [if_pos (by omega), Nat.one_shiftLeft]; rfl
        have b2 : bl (2 ^ k) = k + 1 := bl_unique (Nat.le_refl _) (Nat.pow_lt_pow_right (by omega) (by omega))
        have b3 := bl_xor_le (ofB (fun j => c.testBit (n - j)) k) (2 ^ k)
        rw [eu]
        refine ⟨by omega, by omega, by omega, fun _ => ⟨fun g1 _ => ⟨by omega, fun _ => ⟨by omega, k + 1, by omega, ⟨?_, by omega⟩, by omega⟩⟩, fun g1 => ⟨by omega, k + 1, by omega, ⟨?_, by omega⟩, by omega⟩⟩⟩
        · rw [st, if_pos (hb.1 g1)]
        · rw [st, if_neg (fun e => g1 (hb.2 e)), Nat.xor_zero]
      · have : k = n + 1 := by omega
        subst this; rfl

/-- A row of its own. -/
def c_slices_Clone_bool_bool : Cn
  | [a], om, K => @so _ (tBs.dec a) ⟨fun l => l.length ≤ most ∧ (l = [] → K.k .nils om) ∧ (l = [] → K.k (.lit []) om) ∧ (0 < l.length → ∀ id, om id = none → ∀ cap, l.length ≤ cap → cap ≤ longest → K.k (.ow id 0 l.length cap) (om.put id (els V.b (l ++ List.replicate (cap - l.length) false))))⟩
  | _, _, _ => False
attribute [go_sem] c_slices_Clone_bool_bool.eq_1
theorem c_slices_Clone_bool_bool_mono : Mono c_slices_Clone_bool_bool := by
  intro args om K K' hK h
  unfold c_slices_Clone_bool_bool at h ⊢
  split at h
  · exact mono_so (fun x h => ⟨h.1, fun e => hK _ _ (h.2.1 e), fun e => hK _ _ (h.2.2.1 e), fun h0 id hid cap h1 h2 => hK _ _ (h.2.2.2 h0 id hid cap h1 h2)⟩) h
  · exact h.elim
theorem quiet_slices_Clone_bool_bool : Quiet c_slices_Clone_bool_bool := by
  intro args om K h
  unfold c_slices_Clone_bool_bool at h ⊢
  split at h
  · exact mono_so (fun x h => ⟨h.1, fun e => ⟨.refl _, h.2.1 e⟩, fun e => ⟨.refl _, h.2.2.1 e⟩, fun h0 id hid cap h1 h2 => ⟨.put hid (.refl _), h.2.2.2 h0 id hid cap h1 h2⟩⟩) h
  · exact h.elim
@[go_sem] theorem flat_b (x : Bool) : flat [V.b x] = [V.b x] := rfl
/-- How a row goes on. -/
def go (p : Nat) (l : List Bool) : Nat → List Bool
  | 0 => l
  | k + 1 => go p l k ++ [od p (go p l k) ((go p l k).length - (bl p - 1)) (bl p - 2)]
theorem go_len (p : Nat) (l : List Bool) (k : Nat) : (go p l k).length = l.length + k := by
  induction k with
  | zero => rfl
  | succ k ih => simp only [go, List.length_append, List.length_singleton, ih]; omega

noncomputable def c_massey_Goes : Cn := fn3j tU tBs tZ (fun xs l _ => xs.length ≤ 4294967296 ∧ l.length ≤ 1073741824) (fun xs _ _ => bl (pv xs) < 2) (fun xs l m => l.length < bl (pv xs) - 1 ∨ m < 0 ∨ 2048 < m) (fun _ _ _ => .tup [.sl [], .z 8]) (fun _ _ _ => .tup [.sl [], .z 1]) fun xs l m => .tup [.sl (els V.b (go (pv xs) l m.toNat)), .z 0]
end Go.Proofs.Ytaojebdjkpdcdaa.I
