/- The references of layers 1 and 4: List, Len; Pow, Plain, Irreducible. -/
import Derived.Test.YtaojebdjkpdcdaaRef3
import Derived.Test.YtaojebdjkpdcdaaGfpow2
namespace Go.Proofs.Ytaojebdjkpdcdaa.I
open Go
set_option maxRecDepth 10000
set_option linter.unusedSimpArgs false
set_option linter.unusedVariables false

/-- A row of its own: the bits of a word. -/
noncomputable def c_ref01_Bits_raw : Cn
  | [a], om, K => @so _ ((tN .u64).dec a) ⟨fun x => ∀ id, om id = none → ∀ l : List Int, 64 ≤ l.length → l.length ≤ longest → l.take 64 = bitsL 64 x → K.k (.ow id 0 64 l.length) (om.put id (els V.z l))⟩
  | _, _, _ => False
attribute [go_sem] c_ref01_Bits_raw.eq_1
theorem c_ref01_Bits_raw_mono : Mono c_ref01_Bits_raw := by
  intro args om K K' hK h
  unfold c_ref01_Bits_raw at h ⊢
  split at h
  · exact mono_so (fun x h id hid l h1 h2 h3 => hK _ _ (h id hid l h1 h2 h3)) h
  · exact h.elim
theorem quiet_ref01_Bits_raw : Quiet c_ref01_Bits_raw := by
  intro args om K h
  unfold c_ref01_Bits_raw at h ⊢
  split at h
  · exact mono_so (fun x h id hid l h1 h2 h3 => ⟨.put hid (.refl _), h id hid l h1 h2 h3⟩) h
  · exact h.elim
def rowT (id cap : Nat) : Nat → V
  | 0 => .lit []
  | k + 1 => .ow id 0 (k + 1) cap
def rowO (om : Om) (id : Nat) (l : List V) : Nat → Om
  | 0 => om
  | _ + 1 => om.put id l
attribute [go_sem] rowT.eq_1 rowT.eq_2 rowO.eq_1 rowO.eq_2
noncomputable def cx_ref01_Bits_raw : Cx := { T := T, E := E, cs := [], sch := [], ob := [15], qs := [], md := 2 }
@[go_sem] theorem cx_ref01_Bits_raw_md : cx_ref01_Bits_raw.md = 2 := rfl
@[go_sem] theorem cx_ref01_Bits_raw_T : cx_ref01_Bits_raw.T = T := rfl
@[go_sem] theorem cx_ref01_Bits_raw_E : cx_ref01_Bits_raw.E = E := rfl
@[go_sem] theorem cx_ref01_Bits_raw_cs : cx_ref01_Bits_raw.cs = [] := rfl
@[go_sem] theorem cx_ref01_Bits_raw_ob : cx_ref01_Bits_raw.ob = [15] := rfl
theorem cok_ref01_Bits_raw : COk Try.prog (cx_ref01_Bits_raw) := cok_of rfl (.nil) (.nil) (.nil)
theorem ok_ref01_Bits_raw : Ok Try.prog 56 c_ref01_Bits_raw := by
  refine ok_of_body1 cok_ref01_Bits_raw mixed Try.func56 rfl (by kernel_rfl) (by kernel_rfl) c_ref01_Bits_raw_mono fun args om Q hw h => ?_
  unfold c_ref01_Bits_raw at h
  split at h <;> first | exact h.elim | skip
  rename_i om _ _ _ a
  replace h := so_inv h; obtain ⟨x, hx, h⟩ := h
  obtain rfl := (tN .u64).h2 _ _ hx
  simp only [go_sem, Try.f56, Nat.reduceEqDiff, Nat.reduceBEq, Int.reduceToNat, Nat.reducePow, Nat.reduceMod, Nat.reduceAdd, Nat.reduceSub, Nat.reduceMul, Nat.reduceDiv, Nat.reduceLeDiff, Int.reduceAdd, Int.reduceSub, Int.reduceMul, Int.reduceDiv, Int.reduceMod, Int.reduceLE, Int.reduceLT, Int.reduceNeg, Int.reduceEq, Int.cast_ofNat_Int, Int.natCast_zero, List.contains_cons, List.contains_nil, Bool.or_false, Bool.or_true, Bool.true_or, reduceCtorEq, or_false, or_true, false_or, true_or, and_false, false_and, ne_eq, List.take_zero, List.take_succ_cons, List.take_nil, List.drop_zero, List.drop_succ_cons, List.drop_nil, decide_true, decide_false]
  refine ⟨Nat × Nat × List Int, fun q => ⟨[.n .u64 (x / 2 ^ q.1), .u, .nils, rowT q.2.1 q.2.2.length q.1, .z q.1, .u, .u, .u, .u, .u, .u, .u, .u, .u, .u, .u, .u, .u, .u], [], rowO om q.2.1 (els V.z q.2.2) q.1⟩,
    fun q => q.1 ≤ 64 ∧ (0 < q.1 → om q.2.1 = none ∧ q.1 ≤ q.2.2.length ∧ q.2.2.length ≤ 9223372036854775807 ∧ q.2.2.take q.1 = bitsL q.1 x), fun q => 64 - q.1, ⟨(0, 0, []), ⟨by omega, by simp⟩, ?_⟩, ?_⟩
  · simp only [go_sem, Nat.reduceEqDiff, Nat.reduceBEq, Int.reduceToNat, Nat.reducePow, Nat.reduceMod, Nat.reduceAdd, Nat.reduceSub, Nat.reduceMul, Nat.reduceDiv, Nat.reduceLeDiff, Int.reduceAdd, Int.reduceSub, Int.reduceMul, Int.reduceDiv, Int.reduceMod, Int.reduceLE, Int.reduceLT, Int.reduceNeg, Int.reduceEq, Int.cast_ofNat_Int, Int.natCast_zero, List.contains_cons, List.contains_nil, Bool.or_false, Bool.or_true, Bool.true_or, reduceCtorEq, or_false, or_true, false_or, true_or, and_false, false_and, ne_eq, List.take_zero, List.take_succ_cons, List.take_nil, List.drop_zero, List.drop_succ_cons, List.drop_nil, decide_true, decide_false, Nat.pow_zero, Nat.div_one]
  · rintro ⟨k, id, l⟩ ⟨h1, h2⟩
    simp only at h1 h2
    cases k with
    | zero =>
      simp only [go_sem, Nat.reduceEqDiff, Nat.reduceBEq, Int.reduceToNat, Nat.reducePow, Nat.reduceMod, Nat.reduceAdd, Nat.reduceSub, Nat.reduceMul, Nat.reduceDiv, Nat.reduceLeDiff, Int.reduceAdd, Int.reduceSub, Int.reduceMul, Int.reduceDiv, Int.reduceMod, Int.reduceLE, Int.reduceLT, Int.reduceNeg, Int.reduceEq, Int.cast_ofNat_Int, Int.natCast_zero, List.contains_cons, List.contains_nil, Bool.or_false, Bool.or_true, Bool.true_or, reduceCtorEq, or_false, or_true, false_or, true_or, and_false, false_and, ne_eq, List.take_zero, List.take_succ_cons, List.take_nil, List.drop_zero, List.drop_succ_cons, List.drop_nil, decide_true, decide_false, Nat.div_one]
      refine ⟨by omega, by omega, fun _ id hid cap hc1 hc2 => ⟨(1, id, ((x % 2 : Nat) : Int) :: List.replicate (cap - 1) 0), ⟨by show 1 ≤ 64; omega, fun _ => ⟨hid, by show 1 ≤ _ + 1; omega, by show _ + 1 ≤ _; simp; omega, ?_⟩⟩, ⟨⟨by show _ = x / 2 ^ 1; rw [Nat.pow_one], ?_, rfl⟩, ?_, rfl⟩, by show 64 - 1 < 64; omega⟩⟩
      · show [((x % 2 : Nat) : Int)] = bitsL 1 x
        have := bits_snoc 0 x
        rw [← this]
        show [((x % 2 : Nat) : Int)] = [bitI x 0]
        have e := bitI_mod x 0
        rw [Nat.pow_zero, Nat.div_one] at e
        rw [e]
      · show V.ow id 0 1 cap = V.ow id 0 1 (List.replicate (cap - 1) 0).length.succ
        congr 1; simp; omega
      · show OmKept (om.put id (els V.z (((x % 2 : Nat) : Int) :: List.replicate (cap - 1) 0))) (om.put id (flat (els V.z (((x % 2 : Nat) : Int) :: List.replicate (cap - 1) 0))))
        rw [flat_els']
        exact .refl _
    | succ k =>
      obtain ⟨h3, h4, h5, h6⟩ := h2 (by omega)
      have f1 : (k + 1 ≤ l.length) = True := eq_true h4
      have b := bits_snoc (k + 1) x
      rw [← bitI_mod, ← h6] at b
      simp only [go_sem, Nat.reduceEqDiff, Nat.reduceBEq, Int.reduceToNat, Nat.reducePow, Nat.reduceMod, Nat.reduceAdd, Nat.reduceSub, Nat.reduceMul, Nat.reduceDiv, Nat.reduceLeDiff, Int.reduceAdd, Int.reduceSub, Int.reduceMul, Int.reduceDiv, Int.reduceMod, Int.reduceLE, Int.reduceLT, Int.reduceNeg, Int.reduceEq, Int.cast_ofNat_Int, Int.natCast_zero, List.contains_cons, List.contains_nil, Bool.or_false, Bool.or_true, Bool.true_or, reduceCtorEq, or_false, or_true, false_or, true_or, and_false, false_and, ne_eq, List.take_zero, List.take_succ_cons, List.take_nil, List.drop_zero, List.drop_succ_cons, List.drop_nil, decide_true, decide_false, f1]
      refine ⟨fun g1 => ⟨by omega, by omega, ⟨by omega, by omega⟩, fun g2 => ⟨by omega, (k + 1 + 1, id, l.take (k + 1) ++ [((x / 2 ^ (k + 1) % 2 : Nat) : Int)] ++ l.drop (k + 1 + 1)), ⟨by show k + 1 + 1 ≤ 64; omega, fun _ => ⟨h3, ?_, ?_, ?_⟩⟩, ⟨⟨?_, ?_, by show _ = ((k + 1 + 1 : Nat) : Int); omega⟩, ?_, rfl⟩, by show 64 - (k + 1 + 1) < _; omega⟩, fun g2 id' hid' cap' g3 g4 => ⟨by omega, (k + 1 + 1, id', l.take (k + 1) ++ [((x / 2 ^ (k + 1) % 2 : Nat) : Int)] ++ List.replicate (cap' - (k + 1 + 1)) 0), ⟨by show k + 1 + 1 ≤ 64; omega, fun _ => ⟨(new_ne hid').2.2, ?_, ?_, ?_⟩⟩, ⟨⟨?_, ?_, by show _ = ((k + 1 + 1 : Nat) : Int); omega⟩, ?_, rfl⟩, by show 64 - (k + 1 + 1) < _; omega⟩⟩, fun g1 => ?_⟩
      · show k + 1 + 1 ≤ (l.take (k + 1) ++ [_] ++ l.drop (k + 1 + 1)).length
        simp; omega
      · show (l.take (k + 1) ++ [_] ++ l.drop (k + 1 + 1)).length ≤ _
        simp; omega
      · show (l.take (k + 1) ++ [_] ++ l.drop (k + 1 + 1)).take (k + 1 + 1) = bitsL (k + 1 + 1) x
        rw [List.take_left' (by simp; omega), ← b]
      · show _ = x / 2 ^ (k + 1 + 1)
        rw [Nat.pow_succ 2 (k + 1), Nat.div_div_eq_div_mul]
      · show V.ow id 0 (k + 1 + 1) l.length = V.ow id 0 (k + 1 + 1) (l.take (k + 1) ++ [_] ++ l.drop (k + 1 + 1)).length
        congr 1; simp; omega
      · show OmKept (om.put id (els V.z (l.take (k + 1) ++ [_] ++ l.drop (k + 1 + 1)))) _
        simp only [Nat.zero_add, Nat.mul_one]
        rw [← els_append, ← els_append]
        exact .refl _
      · show k + 1 + 1 ≤ (l.take (k + 1) ++ [_] ++ List.replicate (cap' - (k + 1 + 1)) 0).length
        simp; omega
      · show (l.take (k + 1) ++ [_] ++ List.replicate (cap' - (k + 1 + 1)) 0).length ≤ _
        simp; omega
      · show (l.take (k + 1) ++ [_] ++ List.replicate (cap' - (k + 1 + 1)) 0).take (k + 1 + 1) = bitsL (k + 1 + 1) x
        rw [List.take_left' (by simp; omega), ← b]
      · show _ = x / 2 ^ (k + 1 + 1)
        rw [Nat.pow_succ 2 (k + 1), Nat.div_div_eq_div_mul]
      · show V.ow id' 0 (k + 1 + 1) cap' = V.ow id' 0 (k + 1 + 1) (l.take (k + 1) ++ [_] ++ List.replicate (cap' - (k + 1 + 1)) 0).length
        congr 1; simp; omega
      · show OmKept (om.put id' (els V.z (l.take (k + 1) ++ [_] ++ List.replicate (cap' - (k + 1 + 1)) 0))) _
        simp only [Nat.mul_one]
        rw [← els_append, ← els_append]
        exact .over h3 _ _
      · have e : k + 1 = 64 := by omega
        rw [e] at h6 h4 ⊢
        exact h id h3 l h4 h5 h6

theorem bits_two (x : Nat) : bitsL 64 (x % 18446744073709551616) ++ bitsL 64 (x / 18446744073709551616) = bitsL 128 x := by
  apply List.ext_getElem
  · simp [bitsL]
  · intro i h1 h2
    simp only [bitsL_len, List.length_append] at h1 h2
    rw [List.getElem_append]
    split
    · rename_i h; simp only [bitsL_len] at h
      simp only [bitsL, List.getElem_map, List.getElem_range, bitI]
      rw [show (18446744073709551616 : Nat) = 2 ^ 64 from rfl, Nat.testBit_mod_two_pow]
      simp [h]
    · rename_i h; simp only [bitsL_len] at h
      simp only [bitsL, List.getElem_map, List.getElem_range, bitI, List.length_map, List.length_range]
      rw [show (18446744073709551616 : Nat) = 2 ^ 64 from rfl, Nat.testBit_div_two_pow, show i - 64 + 64 = i by omega]
noncomputable def c_ref01_List : Cn := fn1 tW (fun _ => True) fun x => .sl (els V.z (bitsL 128 x))
noncomputable def cx_ref01_List : Cx := { T := T, E := E, cs := [(56, c_ref01_Bits_raw)], sch := [(1, false, .take 0 (.take 3 (.alt 1 (.alt 2 (.alt 4 (.alt 5 (.alt 6 (.take 7 (.done)) .no) .no) .no) (.alt 4 (.alt 2 (.alt 5 (.alt 6 (.take 7 (.done)) .no) .no) .no) (.no))) (.alt 4 (.alt 1 (.alt 2 (.alt 5 (.alt 6 (.take 7 (.done)) .no) .no) .no) .no) (.no)))))], ob := [9], qs := [56], md := 1 }
@[go_sem] theorem cx_ref01_List_md : cx_ref01_List.md = 1 := rfl
@[go_sem] theorem cx_ref01_List_T : cx_ref01_List.T = T := rfl
@[go_sem] theorem cx_ref01_List_E : cx_ref01_List.E = E := rfl
@[go_sem] theorem cx_ref01_List_cs : cx_ref01_List.cs = [(56, c_ref01_Bits_raw)] := rfl
@[go_sem] theorem cx_ref01_List_sch : cx_ref01_List.sch = [(1, false, .take 0 (.take 3 (.alt 1 (.alt 2 (.alt 4 (.alt 5 (.alt 6 (.take 7 (.done)) .no) .no) .no) (.alt 4 (.alt 2 (.alt 5 (.alt 6 (.take 7 (.done)) .no) .no) .no) (.no))) (.alt 4 (.alt 1 (.alt 2 (.alt 5 (.alt 6 (.take 7 (.done)) .no) .no) .no) .no) (.no)))))] := rfl
@[go_sem] theorem cx_ref01_List_ob : cx_ref01_List.ob = [9] := rfl
theorem cok_ref01_List : COk Try.prog (cx_ref01_List) := cok_of rfl (.cons ok_ref01_Bits_raw (.nil)) (.cons (fun _ => quiet_ref01_Bits_raw) (.nil)) (.nil)
theorem ok_ref01_List : Ok Try.prog 46 c_ref01_List := by
  refine ok_fn1 cok_ref01_List mixed Try.func46 rfl (by kernel_rfl) (by kernel_rfl) rfl ?_
  intro x om hw _
  have hx := wf_w hw
  simp (config := {contextual := true}) only [go_sem, Try.f46, Nat.reduceEqDiff, Nat.reduceBEq, Int.reduceToNat, Nat.reducePow, Nat.reduceMod, Nat.reduceAdd, Nat.reduceSub, Nat.reduceMul, Nat.reduceDiv, Nat.reduceLeDiff, Int.reduceAdd, Int.reduceSub, Int.reduceMul, Int.reduceDiv, Int.reduceMod, Int.reduceLE, Int.reduceLT, Int.reduceNeg, Int.reduceEq, Int.cast_ofNat_Int, Int.natCast_zero, List.contains_cons, List.contains_nil, Bool.or_false, Bool.or_true, Bool.true_or, reduceCtorEq, or_false, or_true, false_or, true_or, and_false, false_and, ne_eq, List.take_zero, List.take_succ_cons, List.take_nil, List.drop_zero, List.drop_succ_cons, List.drop_nil, decide_true, decide_false, c_ref01_Bits, c_ref01_Bits_raw, new_iff, and_imp]
  repeat' (first | with_reducible refine And.intro ?_ ?_ | with_reducible intro _)
  all_goals first
    | omega
    | (rw [List.take_left' (by simp [bitsL_len])]; exact bits_two x)
    | (simp only [List.length_append, bitsL_len]; omega)
    | (refine OmKept.delr (by assumption) ?_
       repeat' (first | exact OmKept.refl _ | refine OmKept.put (by assumption) ?_))
end Go.Proofs.Ytaojebdjkpdcdaa.I
