/- gen: bytes of each kind; Put. -/
import Derived.Test.YtggpbjhmpipplaaGreatGen4
namespace Go.Proofs.YtggpbjhmpipplaaGreat.I
open Go
open Nat renaming reduceEqDiff → kn1, reduceBEq → kn2, reducePow → kn3, reduceMod → kn4, reduceAdd → kn5, reduceSub → kn6, reduceMul → kn7, reduceDiv → kn8, reduceLeDiff → kn9, reduceLT → kn0, zero_lt_one → kq1, zero_add → kq2, zero_le → kq3, le_refl → kq4
open Int renaming reduceToNat → kz1, reduceAdd → kz2, reduceSub → kz3, reduceMul → kz4, reduceDiv → kz5, reduceMod → kz6, reduceLE → kz7, reduceLT → kz8, reduceNeg → kz9, reduceEq → kz0
set_option maxRecDepth 10000
set_option linter.unusedSimpArgs false
set_option linter.unusedVariables false

theorem hasN_eq (o n : Nat) (cs : List V) : (hasN o n cs = true) = (o + n ≤ cs.length) := propext (hasN_iff o n cs)
theorem splice_one (cs : List V) (k : Nat) (v : V) (h : k < cs.length) : splice cs k [v] = cs.set k v := by
  unfold splice
  rw [List.set_eq_take_append_cons_drop, if_pos h]; simp
theorem set_cut {α : Type} (l : List α) (k : Nat) (v : α) (h : k < l.length) : l.take k ++ [v] ++ l.drop (k + 1) = l.set k v := by
  rw [List.set_eq_take_append_cons_drop, if_pos h]; simp
theorem le16_take (n : Nat) : (le 16 n).take 16 = le 16 n := le_take _ _ _ (Nat.le_refl _)
theorem flat_n1 (k : IntKind) (x : Nat) : flat [V.n k x] = els (V.n k) [x] := rfl
/-- A row of its own: 16 bytes. -/
noncomputable def c_wide_Put_raw : Cn
  | [a], om, K => @so _ (tW.dec a) ⟨fun n => ∀ id, om id = none → K.k (.ow id 0 16 16) (om.put id (els (V.n .u8) (le 16 n)))⟩
  | _, _, _ => False
attribute [go_sem] c_wide_Put_raw.eq_1
theorem c_wide_Put_raw_mono : Mono c_wide_Put_raw := by
  intro args om K K' hK h
  unfold c_wide_Put_raw at h ⊢
  split at h
  · exact mono_so (fun x h id hid => hK _ _ (h id hid)) h
  · exact h.elim
theorem quiet_wide_Put_raw : Quiet c_wide_Put_raw := by
  intro args om K h
  unfold c_wide_Put_raw at h ⊢
  split at h
  · exact mono_so (fun x h id hid => ⟨.put hid (.refl _), h id hid⟩) h
  · exact h.elim
noncomputable def cx_wide_Put_raw : Cx := { T := T, E := E, cs := [(115, c_wide_Right)], sch := [], ob := [5], qs := [115], md := 2 }
@[go_sem] theorem cx_wide_Put_raw_e : cx_wide_Put_raw.gs = none ∧ cx_wide_Put_raw.md = 2 ∧ cx_wide_Put_raw.T = T ∧ cx_wide_Put_raw.E = E ∧ cx_wide_Put_raw.cs = [(115, c_wide_Right)] ∧ cx_wide_Put_raw.ob = [5] := ⟨rfl, rfl, rfl, rfl, rfl, rfl⟩
theorem cok_wide_Put_raw : COk Tryz.prog (cx_wide_Put_raw) := cok_of rfl (.cons ok_wide_Right (.nil)) (.cons (fun _ => fn2_quiet) (.nil)) (.nil)
theorem ok_wide_Put_raw : Ok Tryz.prog 113 c_wide_Put_raw := by
  refine ok_of_body1 cok_wide_Put_raw mixed Tryz.func113 rfl (by kernel_rfl) (by kernel_rfl) c_wide_Put_raw_mono fun args om Q hw h => ?_
  unfold c_wide_Put_raw at h
  split at h <;> first | exact h.elim | skip
  rename_i om _ _ _ a
  replace h := so_inv h; obtain ⟨n, hn, h⟩ := h
  obtain rfl := tW.h2 _ _ hn
  simp only [go_sem, Tryz.f113, kn1, kn2, kn3, kn4, kn5, kn6, kn7, kn8, kn9, kz1, kz2, kz3, kz4, kz5, kz6, kz7, kz8, kz9, kz0, reduceCtorEq, String.reduceEq, kn0, kq1, kq2, kq3, kq4, Int.toNat_natCast]
  intro id hid
  refine ⟨Nat, fun k => ⟨[.u, .ref 1 1 2 0 0, .u, .ow id 0 16 16, .u, .u, .u, .z 16, .z k, .u, .u, .u, .u, .u, .u, .u, .u, .u, .u, .u, .u, .u], [(1, ⟨2, true, [vW n], false⟩)], om.put id (els (V.n .u8) (filled 16 k (fun i => n >>> (8 * i) % 256) 0))⟩, fun k => k ≤ 16, fun k => 16 - k, ⟨0, by omega, ?_⟩, ?_⟩
  · simp only [go_sem, kn1, kn2, kn3, kn4, kn5, kn6, kn7, kn8, kn9, kz1, kz2, kz3, kz4, kz5, kz6, kz7, kz8, kz9, kz0, reduceCtorEq, String.reduceEq, kn0, kq1, kq2, kq3, kq4, Int.toNat_natCast, filled_zero]
    exact .refl _
  · intro k hk
    have e1 : (8 * (k : Int)).toNat = 8 * k := by omega
    simp only [go_sem, kn1, kn2, kn3, kn4, kn5, kn6, kn7, kn8, kn9, kz1, kz2, kz3, kz4, kz5, kz6, kz7, kz8, kz9, kz0, reduceCtorEq, String.reduceEq, kn0, kq1, kq2, kq3, kq4, Int.toNat_natCast, e1, hasN_eq, Nat.mul_one]
    refine ⟨fun g => ⟨by omega, fun _ => ⟨by omega, by omega, by omega, k + 1, by omega, ⟨by omega, ?_⟩, by omega⟩⟩, fun g => ?_⟩
    · rw [set_cut _ _ _ (by rw [filled_len]; omega), show n >>> (8 * k) % 18446744073709551616 % 256 = n >>> (8 * k) % 256 by omega, ← filled_set]
      exact .refl _
    · rw [show k = 16 by omega, le_filled]; exact h id hid

@[go_sem] noncomputable def c_gen_mixKind_put : Cn := fn2 tE tG (fun _ _ => True) fun _ s => .sl (els (V.n .u8) (le 8 s.mix))
noncomputable def cx_gen_mixKind_put : Cx := { T := T, E := E, cs := [(110, c_gen_little)], sch := [], ob := [], qs := [110] }
@[go_sem] theorem cx_gen_mixKind_put_e : cx_gen_mixKind_put.gs = none ∧ cx_gen_mixKind_put.md = 0 ∧ cx_gen_mixKind_put.T = T ∧ cx_gen_mixKind_put.E = E ∧ cx_gen_mixKind_put.cs = [(110, c_gen_little)] ∧ ∀ d, (cx_gen_mixKind_put.ob).contains d = false := ⟨rfl, rfl, rfl, rfl, rfl, fun _ => rfl⟩
theorem cok_gen_mixKind_put : COk Tryz.prog (cx_gen_mixKind_put) := cok_of rfl (.cons ok_gen_little (.nil)) (.cons (fun _ => fn2_quiet) (.nil)) (.nil)
theorem ok_gen_mixKind_put : Ok Tryz.prog 103 c_gen_mixKind_put := by
  refine ok_fn2 cok_gen_mixKind_put mixed Tryz.func103 rfl (by kernel_rfl) (by kernel_rfl) rfl ?_
  intro _ s om hw _
  simp only [go_sem, Tryz.f103, kn1, kn2, kn3, kn4, kn5, kn6, kn7, kn8, kn9, kz1, kz2, kz3, kz4, kz5, kz6, kz7, kz8, kz9, kz0, reduceCtorEq, String.reduceEq, kn0, kq1, kq2, kq3, kq4, Int.toNat_natCast]

def xput (x : X4) : Nat → List Nat
  | 0 => []
  | 1 => le 8 x.a
  | 2 => le 8 x.a ++ le 8 x.b
  | 3 => le 8 x.a ++ (le 8 x.b ++ le 8 x.c)
  | _ => le 8 x.a ++ (le 8 x.b ++ (le 8 x.c ++ le 8 x.d))
theorem xput_0 (x : X4) : xput x 0 = [] := rfl
theorem xput_1 (x : X4) : xput x 1 = le 8 x.a := rfl
theorem xput_2 (x : X4) : xput x 2 = le 8 x.a ++ le 8 x.b := rfl
theorem xput_3 (x : X4) : xput x 3 = le 8 x.a ++ (le 8 x.b ++ le 8 x.c) := rfl
theorem xput_4 (x : X4) : xput x 4 = le 8 x.a ++ (le 8 x.b ++ (le 8 x.c ++ le 8 x.d)) := rfl
@[go_sem] noncomputable def c_gen_xoshKind_put : Cn := fn2 tE tG (fun _ _ => True) fun _ s => .sl (els (V.n .u8) (xput s.x 4))
noncomputable def cx_gen_xoshKind_put : Cx := { T := T, E := E, cs := [(110, c_gen_little)], sch := [], ob := [], qs := [110] }
@[go_sem] theorem cx_gen_xoshKind_put_e : cx_gen_xoshKind_put.gs = none ∧ cx_gen_xoshKind_put.md = 0 ∧ cx_gen_xoshKind_put.T = T ∧ cx_gen_xoshKind_put.E = E ∧ cx_gen_xoshKind_put.cs = [(110, c_gen_little)] ∧ ∀ d, (cx_gen_xoshKind_put.ob).contains d = false := ⟨rfl, rfl, rfl, rfl, rfl, fun _ => rfl⟩
theorem cok_gen_xoshKind_put : COk Tryz.prog (cx_gen_xoshKind_put) := cok_of rfl (.cons ok_gen_little (.nil)) (.cons (fun _ => fn2_quiet) (.nil)) (.nil)
theorem ok_gen_xoshKind_put : Ok Tryz.prog 120 c_gen_xoshKind_put := by
  refine ok_fn2 cok_gen_xoshKind_put mixed Tryz.func120 rfl (by kernel_rfl) (by kernel_rfl) rfl ?_
  intro _ s om hw _
  simp only [go_sem, Tryz.f120, kn1, kn2, kn3, kn4, kn5, kn6, kn7, kn8, kn9, kz1, kz2, kz3, kz4, kz5, kz6, kz7, kz8, kz9, kz0, reduceCtorEq, String.reduceEq, kn0, kq1, kq2, kq3, kq4, Int.toNat_natCast]
  refine ⟨Nat, fun k => ⟨[.u, .u, .u, .u, .nils, .row 16 (8 * k) (8 * k), .u, .u, .u, vX s.x, .z k, .u, .u, .u, .u, .u, .u, .u, .u], [(16, ⟨1, false, els (V.n .u8) (xput s.x k), false⟩)], om⟩, fun k => k ≤ 4, fun k => 4 - k, ⟨0, by omega, ?_⟩, ?_⟩
  · simp only [go_sem, kn1, kn2, kn3, kn4, kn5, kn6, kn7, kn8, kn9, kz1, kz2, kz3, kz4, kz5, kz6, kz7, kz8, kz9, kz0, reduceCtorEq, String.reduceEq, kn0, kq1, kq2, kq3, kq4, Int.toNat_natCast, xput]
  · intro k hk
    obtain rfl | rfl | rfl | rfl | rfl : k = 0 ∨ k = 1 ∨ k = 2 ∨ k = 3 ∨ k = 4 := by omega
    all_goals simp only [go_sem, kn1, kn2, kn3, kn4, kn5, kn6, kn7, kn8, kn9, kz1, kz2, kz3, kz4, kz5, kz6, kz7, kz8, kz9, kz0, reduceCtorEq, String.reduceEq, kn0, kq1, kq2, kq3, kq4, Int.toNat_natCast, xput]
    · exact fun _ => ⟨1, by omega, ⟨⟨by omega, by omega⟩, rfl⟩, by omega⟩
    · exact fun _ => ⟨2, by omega, ⟨⟨by omega, by omega⟩, rfl⟩, by omega⟩
    · exact fun _ => ⟨by simp, 3, by omega, ⟨⟨by omega, by omega⟩, by simp⟩, by omega⟩
    · exact fun _ => ⟨by simp, 4, by omega, ⟨⟨by omega, by omega⟩, by simp⟩, by omega⟩
    · exact ⟨by simp, List.take_of_length_le (by simp)⟩
@[go_sem] noncomputable def c_gen_pcgKind_put : Cn := fn2 tE tG (fun _ _ => True) fun _ s => .sl (els (V.n .u8) (le 16 s.p.a ++ le 16 s.p.b))
noncomputable def cx_gen_pcgKind_put : Cx := { T := T, E := E, cs := [(113, c_wide_Put_raw)], sch := [(1, false, .take 0 (.take 1 (.take 4 (.take 5 (.alt 2 (.alt 3 (.alt 6 (.alt 7 (.alt 8 (.take 9 (.done)) .no) .no) .no) (.alt 6 (.alt 3 (.alt 7 (.alt 8 (.take 9 (.done)) .no) .no) .no) (.no))) (.alt 6 (.alt 2 (.alt 3 (.alt 7 (.alt 8 (.take 9 (.done)) .no) .no) .no) .no) (.no)))))))], ob := [13], qs := [113], md := 1 }
@[go_sem] theorem cx_gen_pcgKind_put_e : cx_gen_pcgKind_put.gs = none ∧ cx_gen_pcgKind_put.md = 1 ∧ cx_gen_pcgKind_put.T = T ∧ cx_gen_pcgKind_put.E = E ∧ cx_gen_pcgKind_put.cs = [(113, c_wide_Put_raw)] ∧ cx_gen_pcgKind_put.sch = [(1, false, .take 0 (.take 1 (.take 4 (.take 5 (.alt 2 (.alt 3 (.alt 6 (.alt 7 (.alt 8 (.take 9 (.done)) .no) .no) .no) (.alt 6 (.alt 3 (.alt 7 (.alt 8 (.take 9 (.done)) .no) .no) .no) (.no))) (.alt 6 (.alt 2 (.alt 3 (.alt 7 (.alt 8 (.take 9 (.done)) .no) .no) .no) .no) (.no)))))))] ∧ cx_gen_pcgKind_put.ob = [13] := ⟨rfl, rfl, rfl, rfl, rfl, rfl, rfl⟩
theorem cok_gen_pcgKind_put : COk Tryz.prog (cx_gen_pcgKind_put) := cok_of rfl (.cons ok_wide_Put_raw (.nil)) (.cons (fun _ => quiet_wide_Put_raw) (.nil)) (.nil)
theorem ok_gen_pcgKind_put : Ok Tryz.prog 169 c_gen_pcgKind_put := by
  refine ok_fn2 cok_gen_pcgKind_put mixed Tryz.func169 rfl (by kernel_rfl) (by kernel_rfl) rfl ?_
  intro _ s om hw _
  simp (config := {contextual := true}) only [go_sem, Tryz.f169, kn1, kn2, kn3, kn4, kn5, kn6, kn7, kn8, kn9, kz1, kz2, kz3, kz4, kz5, kz6, kz7, kz8, kz9, kz0, reduceCtorEq, String.reduceEq, kn0, kq1, kq2, kq3, kq4, Int.toNat_natCast, new_iff, and_imp, le16_take]
  repeat' (first | with_reducible refine And.intro ?_ ?_ | with_reducible intro _)
  · simp; omega
  · refine OmKept.delr (by assumption) ?_
    repeat' (first | exact OmKept.refl _ | refine OmKept.put (by assumption) ?_)
  · rw [List.take_left' (by simp)]

/-- Its bytes but for the last one, k words of the key. -/
def hput (f : HS) (k : Nat) : List Nat := le 16 f.c ++ (if k = 0 then [] else if k = 1 then le 4 f.k.a else le 4 f.k.a ++ le 4 f.k.b)
theorem hput_len (f : HS) (k : Nat) (h : k ≤ 2) : (hput f k).length = 16 + 4 * k := by
  obtain rfl | rfl | rfl : k = 0 ∨ k = 1 ∨ k = 2 := by omega
  all_goals simp [hput]
theorem hput_0 (f : HS) : hput f 0 = le 16 f.c := by simp [hput]
theorem hput_1 (f : HS) : hput f 1 = hput f 0 ++ le 4 f.k.a := by simp [hput]
theorem hput_2 (f : HS) : hput f 2 = hput f 1 ++ le 4 f.k.b := by simp [hput]
@[go_sem] noncomputable def c_gen_philoxKind_put : Cn := fn2 tE tG (fun _ _ => True) fun _ s => .sl (els (V.n .u8) (hput s.f 2 ++ [if s.f.h = true then 1 else 0]))
noncomputable def cx_gen_philoxKind_put : Cx := { T := T, E := E, cs := [(110, c_gen_little), (113, c_wide_Put_raw)], sch := [], ob := [22,29,32], qs := [110, 113], md := 1 }
@[go_sem] theorem cx_gen_philoxKind_put_e : cx_gen_philoxKind_put.gs = none ∧ cx_gen_philoxKind_put.md = 1 ∧ cx_gen_philoxKind_put.T = T ∧ cx_gen_philoxKind_put.E = E ∧ cx_gen_philoxKind_put.cs = [(110, c_gen_little), (113, c_wide_Put_raw)] ∧ cx_gen_philoxKind_put.ob = [22,29,32] := ⟨rfl, rfl, rfl, rfl, rfl, rfl⟩
theorem cok_gen_philoxKind_put : COk Tryz.prog (cx_gen_philoxKind_put) := cok_of rfl (.cons ok_gen_little (.cons ok_wide_Put_raw (.nil))) (.cons (fun _ => fn2_quiet) (.cons (fun _ => quiet_wide_Put_raw) (.nil))) (.nil)
theorem ok_gen_philoxKind_put : Ok Tryz.prog 188 c_gen_philoxKind_put := by
  refine ok_fn2 cok_gen_philoxKind_put mixed Tryz.func188 rfl (by kernel_rfl) (by kernel_rfl) rfl ?_
  intro _ s om hw _
  have hf := (wf_g hw.2).1.2.2.2
  have ka : s.f.k.a % 18446744073709551616 = s.f.k.a := Nat.mod_eq_of_lt (by have := hf.2.1; omega)
  have kb : s.f.k.b % 18446744073709551616 = s.f.k.b := Nat.mod_eq_of_lt (by have := hf.2.2; omega)
  simp (config := {contextual := true}) only [go_sem, Tryz.f188, kn1, kn2, kn3, kn4, kn5, kn6, kn7, kn8, kn9, kz1, kz2, kz3, kz4, kz5, kz6, kz7, kz8, kz9, kz0, reduceCtorEq, String.reduceEq, kn0, kq1, kq2, kq3, kq4, Int.toNat_natCast, new_iff, and_imp]
  intro id hid
  refine ⟨Nat × Nat × List Nat, fun q => ⟨[.u, .u, .u, .ref 3 1 15 0 0, .u, .ow q.2.1 0 (16 + 4 * q.1) q.2.2.length, .u, .u, .u, .u, .u, .u, .u, .u, vK s.f.k, .z q.1, .u, .u, .u, .u, .u, .u, .u, .u, .u, .u, .u, .u, .u, .u, .u, .u, .u], [(3, ⟨15, true, [vG s], false⟩)], om.put q.2.1 (els (V.n .u8) q.2.2)⟩,
    fun q => q.1 ≤ 2 ∧ om q.2.1 = none ∧ q.2.2.length ≤ 9223372036854775807 ∧ 16 + 4 * q.1 ≤ q.2.2.length ∧ q.2.2.take (16 + 4 * q.1) = hput s.f q.1, fun q => 2 - q.1, ⟨(0, id, le 16 s.f.c), ?_, ?_⟩, ?_⟩
  · exact ⟨by simp, hid, by simp, by simp, by simp [hput_0, le16_take]⟩
  · simp only [go_sem, kn1, kn2, kn3, kn4, kn5, kn6, kn7, kn8, kn9, kz1, kz2, kz3, kz4, kz5, kz6, kz7, kz8, kz9, kz0, reduceCtorEq, String.reduceEq, kn0, kq1, kq2, kq3, kq4, Int.toNat_natCast]
  · rintro ⟨k, i, l⟩ ⟨h1, h2, h3, h4, h5⟩
    simp only at h1 h2 h3 h4 h5
    obtain rfl | rfl | rfl : k = 0 ∨ k = 1 ∨ k = 2 := by omega
    · simp (config := {contextual := true}) only [go_sem, kn1, kn2, kn3, kn4, kn5, kn6, kn7, kn8, kn9, kz1, kz2, kz3, kz4, kz5, kz6, kz7, kz8, kz9, kz0, reduceCtorEq, String.reduceEq, kn0, kq1, kq2, kq3, kq4, Int.toNat_natCast, new_iff, and_imp, ka, kb]
      refine fun _ => ⟨⟨by omega, by omega⟩, fun g => ⟨(1, i, l.take 16 ++ le 4 s.f.k.a ++ l.drop 20), ⟨by simp, h2, by simp; omega, by simp; omega, ?_⟩, ⟨⟨⟨rfl, rfl, by simp; omega⟩, rfl⟩, .refl _⟩, by simp⟩, fun g id' n1 n2 hid' cap' g1 g2 => ⟨(1, id', l.take 16 ++ le 4 s.f.k.a ++ List.replicate (cap' - 20) 0), ⟨by simp, hid', by simp; omega, by simp; omega, ?_⟩, ⟨⟨⟨rfl, rfl, by simp; omega⟩, rfl⟩, .over h2 _ _⟩, by simp⟩⟩
      all_goals
        simp only
        rw [hput_1, ← h5, List.take_left' (by simp; omega)]
    · simp (config := {contextual := true}) only [go_sem, kn1, kn2, kn3, kn4, kn5, kn6, kn7, kn8, kn9, kz1, kz2, kz3, kz4, kz5, kz6, kz7, kz8, kz9, kz0, reduceCtorEq, String.reduceEq, kn0, kq1, kq2, kq3, kq4, Int.toNat_natCast, new_iff, and_imp, ka, kb]
      refine fun _ => ⟨⟨by omega, by omega⟩, fun g => ⟨(2, i, l.take 20 ++ le 4 s.f.k.b ++ l.drop 24), ⟨by simp, h2, by simp; omega, by simp; omega, ?_⟩, ⟨⟨⟨rfl, rfl, by simp; omega⟩, rfl⟩, .refl _⟩, by simp⟩, fun g id' n1 n2 hid' cap' g1 g2 => ⟨(2, id', l.take 20 ++ le 4 s.f.k.b ++ List.replicate (cap' - 24) 0), ⟨by simp, hid', by simp; omega, by simp; omega, ?_⟩, ⟨⟨⟨rfl, rfl, by simp; omega⟩, rfl⟩, .over h2 _ _⟩, by simp⟩⟩
      all_goals
        simp only
        rw [hput_2, ← h5, List.take_left' (by simp; omega)]
    · cases hh : s.f.h
      all_goals
        simp (config := {contextual := true}) only [go_sem, kn1, kn2, kn3, kn4, kn5, kn6, kn7, kn8, kn9, kz1, kz2, kz3, kz4, kz5, kz6, kz7, kz8, kz9, kz0, reduceCtorEq, String.reduceEq, kn0, kq1, kq2, kq3, kq4, Int.toNat_natCast, new_iff, and_imp, hh, flat_n1]
        repeat' (first | with_reducible refine And.intro ?_ ?_ | with_reducible intro _)
        all_goals try omega
        all_goals first
          | (simp; omega)
          | (rw [List.take_left' (by simp; omega), ← h5])
          | (refine OmKept.delr (by assumption) ?_
             repeat' (first | exact OmKept.refl _ | refine OmKept.put (by assumption) ?_))
end Go.Proofs.YtggpbjhmpipplaaGreat.I
