/- massey: odd, search. -/
import Derived.Test.YtaojebdjkpdcdaaGfdiv2
import Derived.Test.YtaojebdjkpdcdaaG1
import Derived.Test.YtaojebdjkpdcdaaM3
namespace Go.Proofs.Ytaojebdjkpdcdaa.I
open Go
set_option maxRecDepth 10000
set_option linter.unusedSimpArgs false
set_option linter.unusedVariables false

theorem wf_bs {l : List Bool} (h : wfs [V.sl (els V.b l)]) : l.length ≤ longest := by
  obtain ⟨⟨h1, _⟩, _⟩ := h
  rwa [els_len] at h1
@[go_sem] theorem wfs_bs (l : List Bool) : wfs (els V.b l) = True := eq_true ((wfs_iff _).2 fun x hx => by
  obtain ⟨b, _, rfl⟩ := List.mem_map.1 hx; exact trivial)
theorem tb_one {n : Nat} {i : Int} (h : 0 ≤ i) : tb n i = 1 ↔ n.testBit i.toNat = true := by
  unfold tb
  by_cases e : n.testBit i.toNat = true
  · simp [h, e]
  · simp [e]

def c_massey_odd : Cn := fn4 tU tBs tZ tZ (fun _ l i d => 0 ≤ i ∧ 0 ≤ d ∧ i + d < l.length ∧ l.length ≤ 1099511627776) fun xs l i d => .b (od (pv xs) l i.toNat d.toNat)
/-- A search's state. -/
def bmV (t : Bm) : List V := [vP t.c, vP t.b, .z t.n, .z t.ago]
noncomputable def tBm : Ty Bm := Ty.by (fun t => .agg (bmV t)) fun a b h => by
  obtain ⟨c, d, n, g⟩ := a
  obtain ⟨c', d', n', g'⟩ := b
  have h : V.agg (bmV ⟨c, d, n, g⟩) = V.agg (bmV ⟨c', d', n', g'⟩) := h
  simp only [bmV, vP_eq, List.cons.injEq, V.agg.injEq, V.sl.injEq, els_inj, wd_inj', V.z.injEq, and_true] at h
  simp only [Bm.mk.injEq]
  omega
@[go_sem] theorem tBm_dec (c b n g : Nat) : tBm.dec (.agg [.sl (els (V.n .u64) (wd c)), .sl (els (V.n .u64) (wd b)), .z n, .z g]) = some ⟨c, b, n, g⟩ := tBm.h1 ⟨c, b, n, g⟩
theorem tBm_some {cs : List V} {t : Bm} (h : tBm.dec (.agg cs) = some t) : cs = bmV t := by
  have := tBm.h2 _ _ h
  injection this
def row1 : List V → Option (List Bool)
  | [a] => tBs.dec a
  | _ => none
attribute [go_sem] row1.eq_1
theorem row1_some {cs : List V} {l : List Bool} (h : row1 cs = some l) : cs = [.sl (els V.b l)] := by
  unfold row1 at h
  split at h
  · rw [tBs.h2 _ _ h]; rfl
  · cases h

noncomputable def c_massey_search_1 : Cn
  | [.z i, .obj a 0, .obj b 0], om, K => @so _ (om a) ⟨fun cs => @so _ (om b) ⟨fun ds => @so _ (tBm.dec (.agg cs)) ⟨fun t => @so _ (row1 ds) ⟨fun l =>
      (0 ≤ i ∧ t.n ≤ i ∧ i < l.length ∧ l.length ≤ 1099511627776 ∧ bl t.c ≤ t.n + 1) ∧ K.k (.b ((cm t.c (rv l)).testBit i.toNat)) om⟩⟩⟩⟩
  | _, _, _ => False
attribute [go_sem] c_massey_search_1.eq_1
theorem c_massey_search_1_mono : Mono c_massey_search_1 := by
  intro args om K K' hK h
  unfold c_massey_search_1 at h ⊢
  split at h
  · exact mono_so (fun _ h => mono_so (fun _ h => mono_so (fun _ h => mono_so (fun _ h => ⟨h.1, hK _ _ h.2⟩) h) h) h) h
  · exact h.elim
noncomputable def cx_massey_search_1 : Cx := { T := T, E := E, cs := [(70, c_gfp_Bit)], sch := [], ob := [], qs := [70] }
@[go_sem] theorem cx_massey_search_1_md : cx_massey_search_1.md = 0 := rfl
@[go_sem] theorem cx_massey_search_1_T : cx_massey_search_1.T = T := rfl
@[go_sem] theorem cx_massey_search_1_E : cx_massey_search_1.E = E := rfl
@[go_sem] theorem cx_massey_search_1_cs : cx_massey_search_1.cs = [(70, c_gfp_Bit)] := rfl
@[go_sem] theorem cx_massey_search_1_ob (d : Nat) : (cx_massey_search_1.ob).contains d = false := rfl
theorem cok_massey_search_1 : COk Try.prog (cx_massey_search_1) := cok_of rfl (.cons ok_gfp_Bit (.nil)) (.cons (fun _ => fn2_quiet) (.nil)) (.nil)
theorem ok_massey_search_1 : Ok Try.prog 94 c_massey_search_1 := by
  refine ok_of_body1 cok_massey_search_1 mixed Try.func94 rfl (by kernel_rfl) (by kernel_rfl) c_massey_search_1_mono fun args om Q hw h => ?_
  unfold c_massey_search_1 at h
  split at h <;> first | exact h.elim | skip
  rename_i om _ _ _ i a b
  replace h := so_inv h; obtain ⟨cs, hcs, h⟩ := h
  replace h := so_inv h; obtain ⟨ds, hds, h⟩ := h
  replace h := so_inv h; obtain ⟨⟨c, bb, n, g⟩, hx, h⟩ := h
  replace h := so_inv h; obtain ⟨l, hy, ⟨h1, h2, h3, h4, h5⟩, h⟩ := h
  obtain rfl := tBm_some hx
  obtain rfl := row1_some hy
  obtain ⟨i, rfl⟩ := Int.eq_ofNat_of_zero_le h1
  simp only [bmV, vP_eq] at h2 h5 hcs h
  simp only [go_sem, Try.f94, Nat.reduceEqDiff, Nat.reduceBEq, Int.reduceToNat, Nat.reducePow, Nat.reduceMod, Nat.reduceAdd, Nat.reduceSub, Nat.reduceMul, Nat.reduceDiv, Nat.reduceLeDiff, Int.reduceAdd, Int.reduceSub, Int.reduceMul, Int.reduceDiv, Int.reduceMod, Int.reduceLE, Int.reduceLT, Int.reduceNeg, Int.reduceEq, Int.cast_ofNat_Int, Int.natCast_zero, List.contains_cons, List.contains_nil, Bool.or_false, Bool.or_true, Bool.true_or, reduceCtorEq, or_false, or_true, false_or, true_or, and_false, false_and, ne_eq, List.take_zero, List.take_succ_cons, List.take_nil, List.drop_zero, List.drop_succ_cons, List.drop_nil, decide_true, decide_false, c_gfp_Bit, hcs, hds]
  refine ⟨by omega, Nat, fun k => ⟨[.z i, .obj a 0, .obj b 0, .u, .b false, .b (px k fun k => c.testBit k && l.getD (i - k) false), .u, .u, .u, .z (n + 1), .z k, .u, .u, .u, .u, .u, .u, .u, .u, .u, .u, .u, .u, .u, .u, .u, .u, .u, .u, .u], [], om⟩, fun k => k ≤ n + 1, fun k => n + 1 - k, ⟨0, Nat.zero_le _, ?_⟩, ?_⟩
  · simp only [go_sem, Nat.reduceEqDiff, Nat.reduceBEq, Int.reduceToNat, Nat.reducePow, Nat.reduceMod, Nat.reduceAdd, Nat.reduceSub, Nat.reduceMul, Nat.reduceDiv, Nat.reduceLeDiff, Int.reduceAdd, Int.reduceSub, Int.reduceMul, Int.reduceDiv, Int.reduceMod, Int.reduceLE, Int.reduceLT, Int.reduceNeg, Int.reduceEq, Int.cast_ofNat_Int, Int.natCast_zero, List.contains_cons, List.contains_nil, Bool.or_false, Bool.or_true, Bool.true_or, reduceCtorEq, or_false, or_true, false_or, true_or, and_false, false_and, ne_eq, List.take_zero, List.take_succ_cons, List.take_nil, List.drop_zero, List.drop_succ_cons, List.drop_nil, decide_true, decide_false, c_gfp_Bit, px]
  · intro k hk
    have hb := tb_one (n := c) (i := k) (by omega)
    have st : (px (k + 1) fun k => c.testBit k && l.getD (i - k) false) = ((px k fun k => c.testBit k && l.getD (i - k) false) ^^ (c.testBit k && l.getD (i - k) false)) := rfl
    have fin : ¬ k < n + 1 → (px k fun k => c.testBit k && l.getD (i - k) false) = (cm c (rv l)).testBit i := fun h => by
      have : k = n + 1 := by omega
      subst this
      have e := px_more (m := n + 1) (n := i + 1) (f := fun k => c.testBit k && (rv l).testBit (i - k)) (by omega) fun j j1 _ => by rw [testBit_bl (x := c) (by omega)]; rfl
      rw [testBit_cm, e]
      refine px_congr fun j _ => ?_
      rw [testBit_rv]
    rw [Int.toNat_natCast] at hb h
    have e1 : ((i : Int) - k).toNat = i - k := by omega
    cases hl : l.getD (i - k) false
    all_goals
      simp only [go_sem, Nat.reduceEqDiff, Nat.reduceBEq, Int.reduceToNat, Nat.reducePow, Nat.reduceMod, Nat.reduceAdd, Nat.reduceSub, Nat.reduceMul, Nat.reduceDiv, Nat.reduceLeDiff, Int.reduceAdd, Int.reduceSub, Int.reduceMul, Int.reduceDiv, Int.reduceMod, Int.reduceLE, Int.reduceLT, Int.reduceNeg, Int.reduceEq, Int.cast_ofNat_Int, Int.natCast_zero, List.contains_cons, List.contains_nil, Bool.or_false, Bool.or_true, Bool.true_or, reduceCtorEq, or_false, or_true, false_or, true_or, and_false, false_and, ne_eq, List.take_zero, List.take_succ_cons, List.take_nil, List.drop_zero, List.drop_succ_cons, List.drop_nil, decide_true, decide_false, c_gfp_Bit, hcs, hds, e1, hl]
      rw [hl] at st
      refine ⟨fun g1 _ => ⟨fun g2 => ⟨by omega, by omega, ?_⟩, fun g2 => ⟨by omega, k + 1, by omega, ⟨?_, by omega⟩, by omega⟩⟩, fun g1 => by rw [fin (by omega)]; exact h⟩
    · exact ⟨by omega, k + 1, by omega, ⟨by rw [st]; simp, by omega⟩, by omega⟩
    · rw [st]; simp
    · refine ⟨by omega, k + 1, by omega, ⟨by rw [st, hb.1 g2]; simp, by omega⟩, by omega⟩
    · have : c.testBit k = false := by
        cases e : c.testBit k with
        | false => rfl
        | true => exact absurd (hb.2 e) g2
      rw [st, this]; simp

noncomputable def c_massey_search : Cn := fn1 tBs (fun l => l.length ≤ 2048) fun l => .agg (bmV (bmL l))
noncomputable def cx_massey_search : Cx := { T := T, E := E, cs := [(51, c_gfp_Add), (65, c_gfp_Up), (94, c_massey_search_1)], sch := [(8, false, .take 0 (.take 1 (.take 2 (.take 3 (.take 4 (.take 5 (.alt 6 (.alt 7 (.take 8 (.done)) .no) .no)))))))], ob := [1,3], qs := [51, 65] }
@[go_sem] theorem cx_massey_search_md : cx_massey_search.md = 0 := rfl
@[go_sem] theorem cx_massey_search_T : cx_massey_search.T = T := rfl
@[go_sem] theorem cx_massey_search_E : cx_massey_search.E = E := rfl
@[go_sem] theorem cx_massey_search_cs : cx_massey_search.cs = [(51, c_gfp_Add), (65, c_gfp_Up), (94, c_massey_search_1)] := rfl
@[go_sem] theorem cx_massey_search_sch : cx_massey_search.sch = [(8, false, .take 0 (.take 1 (.take 2 (.take 3 (.take 4 (.take 5 (.alt 6 (.alt 7 (.take 8 (.done)) .no) .no)))))))] := rfl
@[go_sem] theorem cx_massey_search_ob : cx_massey_search.ob = [1,3] := rfl
theorem cok_massey_search : COk Try.prog (cx_massey_search) := cok_of rfl (.cons ok_gfp_Add (.cons ok_gfp_Up (.cons ok_massey_search_1 (.nil)))) (.cons (fun _ => fn2_quiet) (.cons (fun _ => fn2_quiet) (.cons (fun h => absurd h (by decide)) (.nil)))) (.nil)
theorem ok_massey_search : Ok Try.prog 89 c_massey_search := by
  refine ok_fn1 cok_massey_search mixed Try.func89 rfl (by kernel_rfl) (by kernel_rfl) rfl ?_
  intro l om hw hl
  simp only [go_sem, Try.f89, Nat.reduceEqDiff, Nat.reduceBEq, Int.reduceToNat, Nat.reducePow, Nat.reduceMod, Nat.reduceAdd, Nat.reduceSub, Nat.reduceMul, Nat.reduceDiv, Nat.reduceLeDiff, Int.reduceAdd, Int.reduceSub, Int.reduceMul, Int.reduceDiv, Int.reduceMod, Int.reduceLE, Int.reduceLT, Int.reduceNeg, Int.reduceEq, Int.cast_ofNat_Int, Int.natCast_zero, List.contains_cons, List.contains_nil, Bool.or_false, Bool.or_true, Bool.true_or, reduceCtorEq, or_false, or_true, false_or, true_or, and_false, false_and, ne_eq, List.take_zero, List.take_succ_cons, List.take_nil, List.drop_zero, List.drop_succ_cons, List.drop_nil, decide_true, decide_false, c_gfp_Add, c_gfp_Up, c_massey_search_1]
  intro b hb
  refine ⟨by omega, by omega, fun a ha => ?_⟩
  obtain ⟨hab, hba, ha⟩ := new_ne ha
  simp only [go_sem, Nat.reduceEqDiff, Nat.reduceBEq, Int.reduceToNat, Nat.reducePow, Nat.reduceMod, Nat.reduceAdd, Nat.reduceSub, Nat.reduceMul, Nat.reduceDiv, Nat.reduceLeDiff, Int.reduceAdd, Int.reduceSub, Int.reduceMul, Int.reduceDiv, Int.reduceMod, Int.reduceLE, Int.reduceLT, Int.reduceNeg, Int.reduceEq, Int.cast_ofNat_Int, Int.natCast_zero, List.contains_cons, List.contains_nil, Bool.or_false, Bool.or_true, Bool.true_or, reduceCtorEq, or_false, or_true, false_or, true_or, and_false, false_and, ne_eq, List.take_zero, List.take_succ_cons, List.take_nil, List.drop_zero, List.drop_succ_cons, List.drop_nil, decide_true, decide_false, c_gfp_Add, c_gfp_Up, c_massey_search_1, hab, hba]
  refine ⟨Nat × Bm, fun p => ⟨[.sl (els V.b l), .obj b 0, .ref 2 1 4 0 0, .obj a 0, .fn (Fn.func 94) [] [.obj a 0, .obj b 0], .u, .u, .u, .u, .u, .u, .u, .z l.length, .z p.1, .u, .u, .u, .u, .u, .u, .u, .u, .u, .u, .u, .u, .u, .u, .u, .u, .u, .u, .u, .u, .u, .u, .u, .u, .u, .u, .u, .u, .u, .u, .u, .u, .u, .u, .u, .u, .u, .u, .u, .u], [(2, ⟨4, true, [.agg [.nils, .nils, .z 0, .z 0]], false⟩)], (om.put b [.sl (els V.b l)]).put a (bmV p.2)⟩,
    fun p => p.1 ≤ l.length ∧ p.2 = bm (rv l) p.1, fun p => l.length - p.1, ⟨(0, bm (rv l) 0), ⟨Nat.zero_le _, rfl⟩, ?_⟩, ?_⟩
  · simp only [go_sem, Nat.reduceEqDiff, Nat.reduceBEq, Int.reduceToNat, Nat.reducePow, Nat.reduceMod, Nat.reduceAdd, Nat.reduceSub, Nat.reduceMul, Nat.reduceDiv, Nat.reduceLeDiff, Int.reduceAdd, Int.reduceSub, Int.reduceMul, Int.reduceDiv, Int.reduceMod, Int.reduceLE, Int.reduceLT, Int.reduceNeg, Int.reduceEq, Int.cast_ofNat_Int, Int.natCast_zero, List.contains_cons, List.contains_nil, Bool.or_false, Bool.or_true, Bool.true_or, reduceCtorEq, or_false, or_true, false_or, true_or, and_false, false_and, ne_eq, List.take_zero, List.take_succ_cons, List.take_nil, List.drop_zero, List.drop_succ_cons, List.drop_nil, decide_true, decide_false, c_gfp_Add, c_gfp_Up, c_massey_search_1, bm, bmV, wd_lit1]
  · rintro ⟨i, t⟩ ⟨h1, ht0⟩
    simp only at h1 ht0
    subst ht0
    have ok := bm_ok (rv l) i
    obtain ⟨⟨c, bb, n, g⟩, ht⟩ : ∃ t, bm (rv l) i = t := ⟨_, rfl⟩
    have hs : bm (rv l) (i + 1) = bmStep (rv l) i (bm (rv l) i) := rfl
    rw [ht] at ok hs ⊢
    have o1 := ok.ok.2.1
    have o2 := ok.ni
    have o3 := ok.bb
    simp only at o1 o2 o3 h1
    have fin : ¬ (i : Int) < l.length → 0 < 1 ∧ 0 < 1 ∧ OmKept om ((om.put b [.sl (els V.b l)]).put a [.sl (els (V.n .u64) (wd c)), .sl (els (V.n .u64) (wd bb)), .z n, .z g]) ∧ c = (bmL l).c ∧ bb = (bmL l).b ∧ (n : Int) = (bmL l).n ∧ (g : Int) = (bmL l).ago := fun h => by
      have : i = l.length := by omega
      subst this
      refine ⟨by omega, by omega, .put ha (.put hb (.refl _)), ?_⟩
      rw [bmL, ht]; exact ⟨rfl, rfl, rfl, rfl⟩
    cases hw2 : (cm c (rv l)).testBit i
    · simp only [go_sem, Nat.reduceEqDiff, Nat.reduceBEq, Int.reduceToNat, Nat.reducePow, Nat.reduceMod, Nat.reduceAdd, Nat.reduceSub, Nat.reduceMul, Nat.reduceDiv, Nat.reduceLeDiff, Int.reduceAdd, Int.reduceSub, Int.reduceMul, Int.reduceDiv, Int.reduceMod, Int.reduceLE, Int.reduceLT, Int.reduceNeg, Int.reduceEq, Int.cast_ofNat_Int, Int.natCast_zero, List.contains_cons, List.contains_nil, Bool.or_false, Bool.or_true, Bool.true_or, reduceCtorEq, or_false, or_true, false_or, true_or, and_false, false_and, ne_eq, List.take_zero, List.take_succ_cons, List.take_nil, List.drop_zero, List.drop_succ_cons, List.drop_nil, decide_true, decide_false, c_gfp_Add, c_gfp_Up, c_massey_search_1, hab, hba, bmV, hw2]
      refine ⟨fun h => ⟨by omega, ?_⟩, fin⟩
      have e : bm (rv l) (i + 1) = ⟨c, bb, n, g + 1⟩ := by rw [hs]; unfold bmStep; simp [hw2]
      refine ⟨by omega, by omega, (i + 1, ⟨c, bb, n, g + 1⟩), ⟨by show i + 1 ≤ _; omega, e.symm⟩, ⟨rfl, ?_⟩, by show l.length - (i + 1) < _; omega⟩
      exact .refl _
    · have b1 := bl_xor_le c (bb <<< g)
      have b2 : bl (bb <<< g) ≤ bl bb + g := by
        by_cases h0 : bb = 0
        · subst h0; simp [bl_zero]
        · rw [bl_shl h0]; omega
      have eu : i < l.length → upP bb g = bb <<< g := fun h => by unfold upP; rw [if_pos (by omega)]; rfl
      simp only [go_sem, Nat.reduceEqDiff, Nat.reduceBEq, Int.reduceToNat, Nat.reducePow, Nat.reduceMod, Nat.reduceAdd, Nat.reduceSub, Nat.reduceMul, Nat.reduceDiv, Nat.reduceLeDiff, Int.reduceAdd, Int.reduceSub, Int.reduceMul, Int.reduceDiv, Int.reduceMod, Int.reduceLE, Int.reduceLT, Int.reduceNeg, Int.reduceEq, Int.cast_ofNat_Int, Int.natCast_zero, List.contains_cons, List.contains_nil, Bool.or_false, Bool.or_true, Bool.true_or, reduceCtorEq, or_false, or_true, false_or, true_or, and_false, false_and, ne_eq, List.take_zero, List.take_succ_cons, List.take_nil, List.drop_zero, List.drop_succ_cons, List.drop_nil, decide_true, decide_false, c_gfp_Add, c_gfp_Up, c_massey_search_1, hab, hba, bmV, hw2]
      refine ⟨fun h => ?_, fin⟩
      simp only [eu (by omega)]
      refine ⟨by omega, by omega, fun _ => ⟨by omega, fun _ => ⟨by omega, fun h2 => ⟨by omega, by omega, by omega, ?_⟩, fun h2 => ⟨by omega, by omega, ?_⟩⟩⟩⟩
      · have e : bm (rv l) (i + 1) = ⟨c ^^^ bb <<< g, c, i + 1 - n, 1⟩ := by
          rw [hs]; unfold bmStep
          rw [if_pos hw2, if_pos (show 2 * n ≤ i by omega)]
        refine ⟨(i + 1, ⟨c ^^^ bb <<< g, c, i + 1 - n, 1⟩), ⟨by show i + 1 ≤ _; omega, e.symm⟩, ⟨rfl, ?_⟩, by show l.length - (i + 1) < _; omega⟩
        have ec : (((i + 1 - n : Nat)) : Int) = (i : Int) + 1 - n := by omega
        show OmKept (Om.put _ a [_, _, .z ((i + 1 - n : Nat) : Int), _]) _
        rw [ec]
        exact .refl _
      · have e : bm (rv l) (i + 1) = ⟨c ^^^ bb <<< g, bb, n, g + 1⟩ := by
          rw [hs]; unfold bmStep
          rw [if_pos hw2, if_neg (show ¬ 2 * n ≤ i by omega)]
        exact ⟨(i + 1, ⟨c ^^^ bb <<< g, bb, n, g + 1⟩), ⟨by show i + 1 ≤ _; omega, e.symm⟩, ⟨rfl, .refl _⟩, by show l.length - (i + 1) < _; omega⟩
end Go.Proofs.Ytaojebdjkpdcdaa.I
