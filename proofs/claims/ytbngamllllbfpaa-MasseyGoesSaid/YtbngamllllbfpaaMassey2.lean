/- massey: Rule, Length, Least, Goes. -/
import Derived.Test.YtbngamllllbfpaaMassey1
namespace Go.Proofs.Ytbngamllllbfpaa.I
open Go
set_option maxRecDepth 10000
set_option linter.unusedSimpArgs false
set_option linter.unusedVariables false

/-- Is it a rule, up to a place? -/
instance (l : List Bool) (p : Nat) : Decidable (Ru l p) :=
  decidable_of_iff (p ≠ 0 ∧ ∀ i, i < l.length - (bl p - 1) → od p l i (bl p - 1) = false) (by
    unfold Ru
    constructor
    · rintro ⟨h, g⟩; exact ⟨h, fun i hi => g i (by omega)⟩
    · rintro ⟨h, g⟩; exact ⟨h, fun i hi => g i (by omega)⟩)

def c_massey_Rule : Cn := fn2 tU tBs (fun xs l => xs.length ≤ 4294967296 ∧ l.length ≤ 1099511627776) fun xs l => .b (decide (Ru l (pv xs)))
noncomputable def cx_massey_Rule : Cx := { T := T, cs := [(21, c_gfp_Own), (24, c_gfp_Deg), (63, c_massey_odd)], sch := [], ob := [], qs := [21, 24, 63] }
@[go_sem] theorem cx_massey_Rule_md : cx_massey_Rule.md = 0 := rfl
@[go_sem] theorem cx_massey_Rule_T : cx_massey_Rule.T = T := rfl
@[go_sem] theorem cx_massey_Rule_cs : cx_massey_Rule.cs = [(21, c_gfp_Own), (24, c_gfp_Deg), (63, c_massey_odd)] := rfl
@[go_sem] theorem cx_massey_Rule_ob (d : Nat) : (cx_massey_Rule.ob).contains d = false := rfl
theorem cok_massey_Rule : COk Try.prog (cx_massey_Rule) := cok_of rfl (.cons ok_gfp_Own (.cons ok_gfp_Deg (.cons ok_massey_odd (.nil)))) (.cons (fun _ => fn1_quiet) (.cons (fun _ => fn1_quiet) (.cons (fun _ => fn4_quiet) (.nil)))) (.nil)
theorem ok_massey_Rule : Ok Try.prog 47 c_massey_Rule := by
  refine ok_fn2 cok_massey_Rule mixed Try.func47 rfl (by kernel_rfl) (by kernel_rfl) rfl ?_
  intro xs l om hw ⟨hx, hl⟩
  have hb := bl_pv (wf_u ⟨hw.1, trivial⟩).2
  obtain ⟨p, hp⟩ : ∃ p, pv xs = p := ⟨_, rfl⟩
  rw [hp] at hb
  simp only [go_sem, Try.f47, Nat.reduceEqDiff, Nat.reduceBEq, Int.reduceToNat, Nat.reducePow, Nat.reduceMod, Nat.reduceAdd, Nat.reduceSub, Nat.reduceMul, Nat.reduceDiv, Nat.reduceLeDiff, Int.reduceAdd, Int.reduceSub, Int.reduceMul, Int.reduceDiv, Int.reduceMod, Int.reduceLE, Int.reduceLT, Int.reduceNeg, Int.reduceEq, Int.cast_ofNat_Int, Int.natCast_zero, List.contains_cons, List.contains_nil, Bool.or_false, Bool.or_true, Bool.true_or, reduceCtorEq, or_false, or_true, false_or, true_or, and_false, false_and, ne_eq, List.take_zero, List.take_succ_cons, List.take_nil, List.drop_zero, List.drop_succ_cons, List.drop_nil, decide_true, decide_false, c_gfp_Own, c_gfp_Deg, c_massey_odd, hp]
  have h0 := bl_eq_zero (x := p)
  refine ⟨by omega, fun _ => ⟨by omega, fun _ => ⟨fun h1 => ?_, fun h1 => ⟨by omega, ?_⟩⟩⟩⟩
  · have : p = 0 := by omega
    subst this
    rw [decide_eq_false]
    exact fun h => h.1 rfl
  · refine ⟨Nat, fun k => ⟨[.sl (els (V.n .u64) (wd p)), .sl (els V.b l), .u, .u, .b false, .z ((bl p : Int) - 1), .u, .u, .u, .u, .u, .u, .u, .u, .u, .u, .u, .z (max ((l.length : Int) - (bl p - 1)) 0), .z k, .u, .u, .u, .u, .u, .u, .u, .u], [], om⟩, fun k => k ≤ l.length - (bl p - 1) ∧ ∀ i, i < k → od p l i (bl p - 1) = false, fun k => l.length - (bl p - 1) - k, ⟨0, ⟨Nat.zero_le _, by omega⟩, ?_⟩, ?_⟩
    · simp only [go_sem, Nat.reduceEqDiff, Nat.reduceBEq, Int.reduceToNat, Nat.reducePow, Nat.reduceMod, Nat.reduceAdd, Nat.reduceSub, Nat.reduceMul, Nat.reduceDiv, Nat.reduceLeDiff, Int.reduceAdd, Int.reduceSub, Int.reduceMul, Int.reduceDiv, Int.reduceMod, Int.reduceLE, Int.reduceLT, Int.reduceNeg, Int.reduceEq, Int.cast_ofNat_Int, Int.natCast_zero, List.contains_cons, List.contains_nil, Bool.or_false, Bool.or_true, Bool.true_or, reduceCtorEq, or_false, or_true, false_or, true_or, and_false, false_and, ne_eq, List.take_zero, List.take_succ_cons, List.take_nil, List.drop_zero, List.drop_succ_cons, List.drop_nil, decide_true, decide_false, c_gfp_Own, c_gfp_Deg, c_massey_odd]
    · rintro k ⟨hk, hz⟩
      have ed : ((bl p : Int) - 1).toNat = bl p - 1 := by omega
      have e1 : ((k : Int) < max ((l.length : Int) - (bl p - 1)) 0) = (k < l.length - (bl p - 1)) := propext ⟨fun h => by omega, fun h => by omega⟩
      cases hod : od p l k (bl p - 1)
      · simp only [go_sem, Nat.reduceEqDiff, Nat.reduceBEq, Int.reduceToNat, Nat.reducePow, Nat.reduceMod, Nat.reduceAdd, Nat.reduceSub, Nat.reduceMul, Nat.reduceDiv, Nat.reduceLeDiff, Int.reduceAdd, Int.reduceSub, Int.reduceMul, Int.reduceDiv, Int.reduceMod, Int.reduceLE, Int.reduceLT, Int.reduceNeg, Int.reduceEq, Int.cast_ofNat_Int, Int.natCast_zero, List.contains_cons, List.contains_nil, Bool.or_false, Bool.or_true, Bool.true_or, reduceCtorEq, or_false, or_true, false_or, true_or, and_false, false_and, ne_eq, List.take_zero, List.take_succ_cons, List.take_nil, List.drop_zero, List.drop_succ_cons, List.drop_nil, decide_true, decide_false, c_gfp_Own, c_gfp_Deg, c_massey_odd, ed, e1, hod]
        refine ⟨fun h => ⟨by omega, by omega, k + 1, ⟨by omega, fun i hi => ?_⟩, by omega, by omega⟩, fun h => ?_⟩
        · by_cases e : i = k
          · rw [e]; exact hod
          · exact hz i (by omega)
        · rw [eq_comm, decide_eq_true_eq]
          exact ⟨by omega, fun i hi => hz i (by omega)⟩
      · simp only [go_sem, Nat.reduceEqDiff, Nat.reduceBEq, Int.reduceToNat, Nat.reducePow, Nat.reduceMod, Nat.reduceAdd, Nat.reduceSub, Nat.reduceMul, Nat.reduceDiv, Nat.reduceLeDiff, Int.reduceAdd, Int.reduceSub, Int.reduceMul, Int.reduceDiv, Int.reduceMod, Int.reduceLE, Int.reduceLT, Int.reduceNeg, Int.reduceEq, Int.cast_ofNat_Int, Int.natCast_zero, List.contains_cons, List.contains_nil, Bool.or_false, Bool.or_true, Bool.true_or, reduceCtorEq, or_false, or_true, false_or, true_or, and_false, false_and, ne_eq, List.take_zero, List.take_succ_cons, List.take_nil, List.drop_zero, List.drop_succ_cons, List.drop_nil, decide_true, decide_false, c_gfp_Own, c_gfp_Deg, c_massey_odd, ed, e1, hod]
        refine ⟨fun h => ⟨by omega, ?_⟩, fun h => ?_⟩
        · rw [eq_comm, decide_eq_false_iff_not]
          intro hr
          have := hr.2 k (by omega)
          rw [hod] at this; cases this
        · rw [eq_comm, decide_eq_true_eq]
          exact ⟨by omega, fun i hi => hz i (by omega)⟩

noncomputable def c_massey_Length : Cn := fn1 tBs (fun l => l.length ≤ 1099511627776) fun l => .z (if l.length ≤ 2048 then lc l else -1)
noncomputable def cx_massey_Length : Cx := { T := T, cs := [(64, c_massey_search)], sch := [], ob := [], qs := [64] }
@[go_sem] theorem cx_massey_Length_md : cx_massey_Length.md = 0 := rfl
@[go_sem] theorem cx_massey_Length_T : cx_massey_Length.T = T := rfl
@[go_sem] theorem cx_massey_Length_cs : cx_massey_Length.cs = [(64, c_massey_search)] := rfl
@[go_sem] theorem cx_massey_Length_ob (d : Nat) : (cx_massey_Length.ob).contains d = false := rfl
theorem cok_massey_Length : COk Try.prog (cx_massey_Length) := cok_of rfl (.cons ok_massey_search (.nil)) (.cons (fun _ => fn1_quiet) (.nil)) (.nil)
theorem ok_massey_Length : Ok Try.prog 51 c_massey_Length := by
  refine ok_fn1 cok_massey_Length mixed Try.func51 rfl (by kernel_rfl) (by kernel_rfl) rfl ?_
  intro l om hw hl
  simp only [go_sem, Try.f51, Nat.reduceEqDiff, Nat.reduceBEq, Int.reduceToNat, Nat.reducePow, Nat.reduceMod, Nat.reduceAdd, Nat.reduceSub, Nat.reduceMul, Nat.reduceDiv, Nat.reduceLeDiff, Int.reduceAdd, Int.reduceSub, Int.reduceMul, Int.reduceDiv, Int.reduceMod, Int.reduceLE, Int.reduceLT, Int.reduceNeg, Int.reduceEq, Int.cast_ofNat_Int, Int.natCast_zero, List.contains_cons, List.contains_nil, Bool.or_false, Bool.or_true, Bool.true_or, reduceCtorEq, or_false, or_true, false_or, true_or, and_false, false_and, ne_eq, List.take_zero, List.take_succ_cons, List.take_nil, List.drop_zero, List.drop_succ_cons, List.drop_nil, decide_true, decide_false, c_massey_search, bmV]
  refine ⟨fun h => ?_, fun h => ?_⟩
  · rw [if_neg (by omega)]
  · refine ⟨by omega, fun _ => ?_⟩
    rw [if_pos (by omega)]; rfl

theorem ofB_succ (f : Nat → Bool) (n : Nat) : ofB f (n + 1) = ofB f n ^^^ (if f n = true then 2 ^ n else 0) := rfl
theorem bl_ofB (f : Nat → Bool) (n : Nat) : bl (ofB f n) ≤ n := bl_le_of fun k hk => by
  rw [testBit_ofB]; have : ¬ k < n := by omega
  simp [this]

noncomputable def c_massey_Least : Cn := fn1i tBs (fun l => l.length ≤ 1099511627776) (fun l => l.length ≤ 2048 ∧ 2 * lc l ≤ l.length) (fun l => .tup [vP (lst l), .b true]) (fun _ => .tup [vP 0, .b false])
noncomputable def cx_massey_Least : Cx := { T := T, cs := [(25, c_gfp_Bit), (27, c_gfp_X), (28, c_gfp_Add), (64, c_massey_search)], sch := [], ob := [], qs := [25, 27, 28, 64] }
@[go_sem] theorem cx_massey_Least_md : cx_massey_Least.md = 0 := rfl
@[go_sem] theorem cx_massey_Least_T : cx_massey_Least.T = T := rfl
@[go_sem] theorem cx_massey_Least_cs : cx_massey_Least.cs = [(25, c_gfp_Bit), (27, c_gfp_X), (28, c_gfp_Add), (64, c_massey_search)] := rfl
@[go_sem] theorem cx_massey_Least_ob (d : Nat) : (cx_massey_Least.ob).contains d = false := rfl
theorem cok_massey_Least : COk Try.prog (cx_massey_Least) := cok_of rfl (.cons ok_gfp_Bit (.cons ok_gfp_X (.cons ok_gfp_Add (.cons ok_massey_search (.nil))))) (.cons (fun _ => fn2_quiet) (.cons (fun _ => fn1_quiet) (.cons (fun _ => fn2_quiet) (.cons (fun _ => fn1_quiet) (.nil))))) (.nil)
theorem ok_massey_Least : Ok Try.prog 50 c_massey_Least := by
  refine ok_fn1i cok_massey_Least mixed Try.func50 rfl (by kernel_rfl) (by kernel_rfl) rfl ?_
  intro l om hw hl
  have hn := lc_le l
  have hlst : lst l = revP (lc l) (bmL l).c := rfl
  have hlc : lc l = (bmL l).n := rfl
  have hbl := (bm_ok (rv l) l.length).ok.2.1
  have ebm : bm (rv l) l.length = bmL l := rfl
  rw [ebm, ← hlc] at hbl
  obtain ⟨⟨c, b, n, g⟩, ht⟩ : ∃ t, bmL l = t := ⟨_, rfl⟩
  rw [ht] at hlst hlc hbl
  simp only at hlst hlc hbl
  rw [hlc] at hn hbl
  rw [hlst, hlc]
  simp only [go_sem, Try.f50, Nat.reduceEqDiff, Nat.reduceBEq, Int.reduceToNat, Nat.reducePow, Nat.reduceMod, Nat.reduceAdd, Nat.reduceSub, Nat.reduceMul, Nat.reduceDiv, Nat.reduceLeDiff, Int.reduceAdd, Int.reduceSub, Int.reduceMul, Int.reduceDiv, Int.reduceMod, Int.reduceLE, Int.reduceLT, Int.reduceNeg, Int.reduceEq, Int.cast_ofNat_Int, Int.natCast_zero, List.contains_cons, List.contains_nil, Bool.or_false, Bool.or_true, Bool.true_or, reduceCtorEq, or_false, or_true, false_or, true_or, and_false, false_and, ne_eq, List.take_zero, List.take_succ_cons, List.take_nil, List.drop_zero, List.drop_succ_cons, List.drop_nil, decide_true, decide_false, c_gfp_Bit, c_gfp_X, c_gfp_Add, c_massey_search, bmV, ht]
  refine ⟨fun h => ?_, fun h => ⟨by omega, fun _ => ⟨by omega, by omega, by omega, fun h1 => ?_, fun h1 => ⟨by omega, ?_⟩⟩⟩⟩
  · rw [if_neg (by omega)]
  · rw [if_neg (by omega)]
  · rw [if_pos (by omega)]
    refine ⟨by omega, Nat, fun k => ⟨[.sl (els V.b l), .u, .u, .b false, .ref 4 1 4 0 0, .sl (els (V.n .u64) (wd (ofB (fun j => c.testBit (n - j)) k))), .u, .u, .u, .u, .u, .u, .u, .u, .u, .u, .u, .u, .u, .u, .z (n + 1), .z k, .u, .u, .u, .u, .u, .u, .u, .u, .u, .u, .u, .u, .u, .u, .u, .u], [(4, ⟨4, true, [.agg [.sl (els (V.n .u64) (wd c)), .sl (els (V.n .u64) (wd b)), .z n, .z g]], false⟩)], om⟩, fun k => k ≤ n + 1, fun k => n + 1 - k, ⟨0, Nat.zero_le _, ?_⟩, ?_⟩
    · simp only [go_sem, Nat.reduceEqDiff, Nat.reduceBEq, Int.reduceToNat, Nat.reducePow, Nat.reduceMod, Nat.reduceAdd, Nat.reduceSub, Nat.reduceMul, Nat.reduceDiv, Nat.reduceLeDiff, Int.reduceAdd, Int.reduceSub, Int.reduceMul, Int.reduceDiv, Int.reduceMod, Int.reduceLE, Int.reduceLT, Int.reduceNeg, Int.reduceEq, Int.cast_ofNat_Int, Int.natCast_zero, List.contains_cons, List.contains_nil, Bool.or_false, Bool.or_true, Bool.true_or, reduceCtorEq, or_false, or_true, false_or, true_or, and_false, false_and, ne_eq, List.take_zero, List.take_succ_cons, List.take_nil, List.drop_zero, List.drop_succ_cons, List.drop_nil, decide_true, decide_false, c_gfp_Bit, c_gfp_X, c_gfp_Add, c_massey_search, ofB]
    · intro k hk
      have hb := tb_one (n := c) (i := (n : Int) - k)
      have st := ofB_succ (fun j => c.testBit (n - j)) k
      have b1 := bl_ofB (fun j => c.testBit (n - j)) k
      simp only [go_sem, Nat.reduceEqDiff, Nat.reduceBEq, Int.reduceToNat, Nat.reducePow, Nat.reduceMod, Nat.reduceAdd, Nat.reduceSub, Nat.reduceMul, Nat.reduceDiv, Nat.reduceLeDiff, Int.reduceAdd, Int.reduceSub, Int.reduceMul, Int.reduceDiv, Int.reduceMod, Int.reduceLE, Int.reduceLT, Int.reduceNeg, Int.reduceEq, Int.cast_ofNat_Int, Int.natCast_zero, List.contains_cons, List.contains_nil, Bool.or_false, Bool.or_true, Bool.true_or, reduceCtorEq, or_false, or_true, false_or, true_or, and_false, false_and, ne_eq, List.take_zero, List.take_succ_cons, List.take_nil, List.drop_zero, List.drop_succ_cons, List.drop_nil, decide_true, decide_false, c_gfp_Bit, c_gfp_X, c_gfp_Add, c_massey_search]
      refine ⟨fun h2 => ?_, fun h2 => ?_⟩
      · have hb := hb (by omega)
        rw [show ((n : Int) - k).toNat = n - k by omega] at hb
        have eu : upP 1 k = 2 ^ k := by unfold upP; rw [if_pos (by omega), Nat.one_shiftLeft]; rfl
        have b2 : bl (2 ^ k) = k + 1 := bl_unique (Nat.le_refl _) (Nat.pow_lt_pow_right (by omega) (by omega))
        have b3 := bl_xor_le (ofB (fun j => c.testBit (n - j)) k) (2 ^ k)
        rw [eu]
        refine ⟨by omega, by omega, by omega, fun _ => ⟨fun g1 _ => ⟨by omega, fun _ => ⟨by omega, k + 1, by omega, ⟨?_, by omega⟩, by omega⟩⟩, fun g1 => ⟨by omega, k + 1, by omega, ⟨?_, by omega⟩, by omega⟩⟩⟩
        · rw [st, if_pos (hb.1 g1)]
        · rw [st, if_neg (fun e => g1 (hb.2 e)), Nat.xor_zero]
      · have : k = n + 1 := by omega
        subst this; rfl

/-- A row of its own. -/
def c_slices_Clone_bool_bool : Cn
  | [a], om, K => @so _ (tBs.dec a) ⟨fun l => l.length ≤ most ∧ (l = [] → K.k .nils om) ∧ (l = [] → K.k (.lit []) om) ∧ (0 < l.length → ∀ id, om id = none → ∀ cap, l.length ≤ cap → cap ≤ longest → K.k (.ow id 0 l.length cap) (om.put id (els V.b (l ++ List.replicate (cap - l.length) false))))⟩
  | _, _, _ => False
attribute [go_sem] c_slices_Clone_bool_bool.eq_1
theorem c_slices_Clone_bool_bool_mono : Mono c_slices_Clone_bool_bool := by
  intro args om K K' hK h
  unfold c_slices_Clone_bool_bool at h ⊢
  split at h
  · exact mono_so (fun x h => ⟨h.1, fun e => hK _ _ (h.2.1 e), fun e => hK _ _ (h.2.2.1 e), fun h0 id hid cap h1 h2 => hK _ _ (h.2.2.2 h0 id hid cap h1 h2)⟩) h
  · exact h.elim
theorem quiet_slices_Clone_bool_bool : Quiet c_slices_Clone_bool_bool := by
  intro args om K h
  unfold c_slices_Clone_bool_bool at h ⊢
  split at h
  · exact mono_so (fun x h => ⟨h.1, fun e => ⟨.refl _, h.2.1 e⟩, fun e => ⟨.refl _, h.2.2.1 e⟩, fun h0 id hid cap h1 h2 => ⟨.put hid (.refl _), h.2.2.2 h0 id hid cap h1 h2⟩⟩) h
  · exact h.elim
@[go_sem] theorem flat_els' {α : Type} (e : α → V) [c : Cell1 e] (xs : List α) : flat (els e xs) = els e xs := flat_one (els_uni e xs)
noncomputable def cx_slices_Clone_bool_bool : Cx := { T := T, cs := [], sch := [], ob := [7], qs := [], md := 2 }
@[go_sem] theorem cx_slices_Clone_bool_bool_md : cx_slices_Clone_bool_bool.md = 2 := rfl
@[go_sem] theorem cx_slices_Clone_bool_bool_T : cx_slices_Clone_bool_bool.T = T := rfl
@[go_sem] theorem cx_slices_Clone_bool_bool_cs : cx_slices_Clone_bool_bool.cs = [] := rfl
@[go_sem] theorem cx_slices_Clone_bool_bool_ob : cx_slices_Clone_bool_bool.ob = [7] := rfl
theorem cok_slices_Clone_bool_bool : COk Try.prog (cx_slices_Clone_bool_bool) := cok_of rfl (.nil) (.nil) (.nil)
theorem ok_slices_Clone_bool_bool : Ok Try.prog 62 c_slices_Clone_bool_bool := by
  refine ok_of_body1 cok_slices_Clone_bool_bool mixed Try.func62 rfl (by kernel_rfl) (by kernel_rfl) c_slices_Clone_bool_bool_mono fun args om Q hw h => ?_
  unfold c_slices_Clone_bool_bool at h
  split at h <;> first | exact h.elim | skip
  rename_i om _ _ _ a
  replace h := so_inv h; obtain ⟨l, hl, h0, h1, h2, h3⟩ := h
  obtain rfl := tBs.h2 _ _ hl
  rw [most_eq] at h0
  simp only [go_sem] at h1 h2 h3
  simp only [go_sem, Try.f62, Nat.reduceEqDiff, Nat.reduceBEq, Int.reduceToNat, Nat.reducePow, Nat.reduceMod, Nat.reduceAdd, Nat.reduceSub, Nat.reduceMul, Nat.reduceDiv, Nat.reduceLeDiff, Int.reduceAdd, Int.reduceSub, Int.reduceMul, Int.reduceDiv, Int.reduceMod, Int.reduceLE, Int.reduceLT, Int.reduceNeg, Int.reduceEq, Int.cast_ofNat_Int, Int.natCast_zero, List.contains_cons, List.contains_nil, Bool.or_false, Bool.or_true, Bool.true_or, reduceCtorEq, or_false, or_true, false_or, true_or, and_false, false_and, ne_eq, List.take_zero, List.take_succ_cons, List.take_nil, List.drop_zero, List.drop_succ_cons, List.drop_nil, decide_true, decide_false]
  exact ⟨h1, h2, fun h => ⟨by omega, h3 h⟩⟩

noncomputable def c_massey_odd_b : Cn := bor c_massey_odd
theorem ok_massey_odd_b : Ok Try.prog 63 c_massey_odd_b := ok_bor ok_massey_odd fn4_pure
theorem quiet_massey_odd_b : Quiet c_massey_odd_b := bor_quiet ok_massey_odd.mono

@[go_sem] theorem flat_b (x : Bool) : flat [V.b x] = [V.b x] := rfl
theorem OmKept.over {om : Om} {i : Nat} {cs : List V} (h : om i = none) (j : Nat) (ds : List V) : OmKept (om.put j ds) ((om.put i cs).put j ds) := fun k es e => by
  simp only [Om.put] at e ⊢
  split at e
  · rename_i e'; rw [if_pos e']; exact e
  · rename_i e'; rw [if_neg e']
    split
    · rename_i e''; subst e''; rw [h] at e; cases e
    · exact e
theorem OmKept.del {om : Om} {i : Nat} {cs : List V} (h : om i = none) : OmKept om ((om.put i cs).del i) := fun k es e => by
  simp only [Om.put, Om.del]
  split
  · rename_i e'; subst e'; rw [h] at e; cases e
  · exact e

/-- How a row goes on. -/
def go (p : Nat) (l : List Bool) : Nat → List Bool
  | 0 => l
  | k + 1 => go p l k ++ [od p (go p l k) ((go p l k).length - (bl p - 1)) (bl p - 2)]
theorem go_len (p : Nat) (l : List Bool) (k : Nat) : (go p l k).length = l.length + k := by
  induction k with
  | zero => rfl
  | succ k ih => simp only [go, List.length_append, List.length_singleton, ih]; omega

noncomputable def c_massey_Goes : Cn := fn3j tU tBs tZ (fun xs l _ => xs.length ≤ 4294967296 ∧ l.length ≤ 1073741824) (fun xs _ _ => bl (pv xs) < 2) (fun xs l m => l.length < bl (pv xs) - 1 ∨ m < 0 ∨ 2048 < m) (fun _ _ _ => .tup [.sl [], .z 8]) (fun _ _ _ => .tup [.sl [], .z 1]) fun xs l m => .tup [.sl (els V.b (go (pv xs) l m.toNat)), .z 0]
noncomputable def cx_massey_Goes : Cx := { T := T, cs := [(21, c_gfp_Own), (24, c_gfp_Deg), (62, c_slices_Clone_bool_bool), (63, c_massey_odd_b)], sch := [], ob := [9,46], qs := [21, 24, 62, 63], md := 1 }
@[go_sem] theorem cx_massey_Goes_md : cx_massey_Goes.md = 1 := rfl
@[go_sem] theorem cx_massey_Goes_T : cx_massey_Goes.T = T := rfl
@[go_sem] theorem cx_massey_Goes_cs : cx_massey_Goes.cs = [(21, c_gfp_Own), (24, c_gfp_Deg), (62, c_slices_Clone_bool_bool), (63, c_massey_odd_b)] := rfl
@[go_sem] theorem cx_massey_Goes_ob : cx_massey_Goes.ob = [9,46] := rfl
theorem cok_massey_Goes : COk Try.prog (cx_massey_Goes) := cok_of rfl (.cons ok_gfp_Own (.cons ok_gfp_Deg (.cons ok_slices_Clone_bool_bool (.cons ok_massey_odd_b (.nil))))) (.cons (fun _ => fn1_quiet) (.cons (fun _ => fn1_quiet) (.cons (fun _ => quiet_slices_Clone_bool_bool) (.cons (fun _ => quiet_massey_odd_b) (.nil))))) (.nil)
theorem ok_massey_Goes : Ok Try.prog 44 c_massey_Goes := by
  refine ok_fn3j ?_
  refine ok_fn3 cok_massey_Goes mixed Try.func44 rfl (by kernel_rfl) (by kernel_rfl) rfl ?_
  intro xs l m om hw ⟨hx, hl⟩
  have hb := bl_pv (wf_u ⟨hw.1, trivial⟩).2
  obtain ⟨p, hp⟩ : ∃ p, pv xs = p := ⟨_, rfl⟩
  rw [hp] at hb
  simp only [go_sem, Try.f44, Nat.reduceEqDiff, Nat.reduceBEq, Int.reduceToNat, Nat.reducePow, Nat.reduceMod, Nat.reduceAdd, Nat.reduceSub, Nat.reduceMul, Nat.reduceDiv, Nat.reduceLeDiff, Int.reduceAdd, Int.reduceSub, Int.reduceMul, Int.reduceDiv, Int.reduceMod, Int.reduceLE, Int.reduceLT, Int.reduceNeg, Int.reduceEq, Int.cast_ofNat_Int, Int.natCast_zero, List.contains_cons, List.contains_nil, Bool.or_false, Bool.or_true, Bool.true_or, reduceCtorEq, or_false, or_true, false_or, true_or, and_false, false_and, ne_eq, List.take_zero, List.take_succ_cons, List.take_nil, List.drop_zero, List.drop_succ_cons, List.drop_nil, decide_true, decide_false, c_gfp_Own, c_gfp_Deg, c_slices_Clone_bool_bool, c_massey_odd, c_massey_odd_b, hp]
  refine ⟨by omega, fun _ => ⟨by omega, fun _ => ⟨fun h1 => ?_, fun h1 => ⟨fun h2 => ?_, fun h2 => ⟨fun h3 => ?_, fun h3 => ⟨fun h4 => ?_, fun h4 => ⟨by omega, fun h5 => ?_, fun h5 => ?_, fun h5 id hid cap hc1 hc2 _ => ?_⟩⟩⟩⟩⟩⟩⟩
  · rw [if_pos (by omega)]
  · rw [if_neg (by omega), if_pos (by omega)]
  · rw [if_neg (by omega), if_pos (by omega)]
  · rw [if_neg (by omega), if_pos (by omega)]
  · subst h5; simp only [List.length_nil] at h2; omega
  · subst h5; simp only [List.length_nil] at h2; omega
  rw [if_neg (by omega), if_neg (by omega)]
  obtain ⟨m, rfl⟩ := Int.eq_ofNat_of_zero_le (show 0 ≤ m by omega)
  refine ⟨Nat × Nat × Nat × List Bool, fun q => ⟨[.sl (els (V.n .u64) (wd p)), .u, .u, .u, .u, .u, .nils, .z 0, .z ((bl p : Int) - 1), .ow q.2.1 0 (l.length + q.1) q.2.2.1, .u, .u, .u, .u, .u, .u, .u, .u, .u, .u, .u, .u, .u, .u, .u, .u, .u, .u, .u, .u, .u, .u, .z m, .z q.1, .u, .u, .u, .u, .u, .u, .u, .u, .u, .u, .u, .u, .u, .u, .u], [], om.put q.2.1 (els V.b q.2.2.2)⟩,
    fun q => q.1 ≤ m ∧ om q.2.1 = none ∧ q.2.2.2.length = q.2.2.1 ∧ l.length + q.1 ≤ q.2.2.1 ∧ q.2.2.1 ≤ 9223372036854775807 ∧ q.2.2.2.take (l.length + q.1) = go p l q.1, fun q => m - q.1, ⟨(0, id, cap, l ++ List.replicate (cap - l.length) false), ⟨Nat.zero_le _, hid, by simp; omega, hc1, hc2, by simp [go]⟩, ?_⟩, ?_⟩
  · simp only [go_sem, Nat.reduceEqDiff, Nat.reduceBEq, Int.reduceToNat, Nat.reducePow, Nat.reduceMod, Nat.reduceAdd, Nat.reduceSub, Nat.reduceMul, Nat.reduceDiv, Nat.reduceLeDiff, Int.reduceAdd, Int.reduceSub, Int.reduceMul, Int.reduceDiv, Int.reduceMod, Int.reduceLE, Int.reduceLT, Int.reduceNeg, Int.reduceEq, Int.cast_ofNat_Int, Int.natCast_zero, List.contains_cons, List.contains_nil, Bool.or_false, Bool.or_true, Bool.true_or, reduceCtorEq, or_false, or_true, false_or, true_or, and_false, false_and, ne_eq, List.take_zero, List.take_succ_cons, List.take_nil, List.drop_zero, List.drop_succ_cons, List.drop_nil, decide_true, decide_false, c_gfp_Own, c_gfp_Deg, c_slices_Clone_bool_bool, c_massey_odd, c_massey_odd_b]
    rfl
  · rintro ⟨k, id, cap, ys⟩ ⟨h6, h7, h8, h9, h10, h11⟩
    simp only at h6 h7 h8 h9 h10 h11
    have f1 : (l.length + k ≤ ys.length) = True := eq_true (by omega)
    have f2 : (((l.length + k : Nat) : Int) - ((bl p : Int) - 1)).toNat = l.length + k - (bl p - 1) := by omega
    have f3 : ((bl p : Int) - 1 - 1).toNat = bl p - 2 := by omega
    have f4 := go_len p l k
    obtain ⟨x, hx⟩ : ∃ x, od p (go p l k) (l.length + k - (bl p - 1)) (bl p - 2) = x := ⟨_, rfl⟩
    have f5 : go p l (k + 1) = go p l k ++ [x] := by rw [← hx, ← f4]; rfl
    simp only [go_sem, Nat.reduceEqDiff, Nat.reduceBEq, Int.reduceToNat, Nat.reducePow, Nat.reduceMod, Nat.reduceAdd, Nat.reduceSub, Nat.reduceMul, Nat.reduceDiv, Nat.reduceLeDiff, Int.reduceAdd, Int.reduceSub, Int.reduceMul, Int.reduceDiv, Int.reduceMod, Int.reduceLE, Int.reduceLT, Int.reduceNeg, Int.reduceEq, Int.cast_ofNat_Int, Int.natCast_zero, List.contains_cons, List.contains_nil, Bool.or_false, Bool.or_true, Bool.true_or, reduceCtorEq, or_false, or_true, false_or, true_or, and_false, false_and, ne_eq, List.take_zero, List.take_succ_cons, List.take_nil, List.drop_zero, List.drop_succ_cons, List.drop_nil, decide_true, decide_false, c_gfp_Own, c_gfp_Deg, c_slices_Clone_bool_bool, c_massey_odd, c_massey_odd_b, f1, h11, f2, f3, hx, Nat.zero_add, Nat.mul_one]
    refine ⟨fun g1 => ⟨by omega, by omega, ⟨by omega, by omega, by omega, by omega⟩, by omega, ⟨by omega, by omega, by omega⟩, fun g2 => ⟨by omega, ?_⟩, fun g2 id' hid' cap' g3 g4 => ⟨by omega, ?_⟩⟩, fun g1 => ⟨h7, .del h7, ?_⟩⟩
    · refine ⟨(k + 1, id, cap, ys.take (l.length + k) ++ [x] ++ ys.drop (l.length + k + 1)), ⟨by show k + 1 ≤ m; omega, h7, ?_, by show l.length + (k + 1) ≤ cap; omega, h10, ?_⟩, ⟨⟨⟨rfl, by show _ = l.length + (k + 1); omega, rfl⟩, rfl⟩, by rw [h11]; exact .refl _⟩, by show m - (k + 1) < m - k; omega⟩
      · show (ys.take (l.length + k) ++ [x] ++ ys.drop (l.length + k + 1)).length = cap
        simp; omega
      · show (ys.take (l.length + k) ++ [x] ++ ys.drop (l.length + k + 1)).take (l.length + (k + 1)) = go p l (k + 1)
        rw [h11, f5, List.take_left' (by simp; omega)]
    · obtain ⟨g5, g6, hid'⟩ := new_ne hid'
      refine ⟨(k + 1, id', cap', ys.take (l.length + k) ++ [x] ++ List.replicate (cap' - (l.length + k + 1)) false), ⟨by show k + 1 ≤ m; omega, hid', ?_, by show l.length + (k + 1) ≤ cap'; omega, g4, ?_⟩, ⟨⟨⟨rfl, by show _ = l.length + (k + 1); omega, rfl⟩, rfl⟩, ?_⟩, by show m - (k + 1) < m - k; omega⟩
      · show (ys.take (l.length + k) ++ [x] ++ List.replicate (cap' - (l.length + k + 1)) false).length = cap'
        simp; omega
      · show (ys.take (l.length + k) ++ [x] ++ List.replicate (cap' - (l.length + k + 1)) false).take (l.length + (k + 1)) = go p l (k + 1)
        rw [h11, f5, List.take_left' (by simp; omega)]
      · rw [h11]; exact .over h7 _ _
    · rw [show k = m by omega]
end Go.Proofs.Ytbngamllllbfpaa.I
