/- Texts of the ideal machine, or of plain numbers, one behind the other: Ref3, Gfpow1, Gfpow2. -/
import Derived.Test.YteomkgcepiecjaaGreatZG5
import Derived.Test.YteomkgcepiecjaaGreatZG3
import Derived.Test.YteomkgcepiecjaaGreatZG4
import Derived.Test.YteomkgcepiecjaaGreatZG1
/- The references of layer 3: Div, Mod, Gcd, Inverse. -/
namespace Go.Proofs.YteomkgcepiecjaaGreat.I
open Go
open Nat renaming reduceEqDiff → kn1, reduceBEq → kn2, reducePow → kn3, reduceMod → kn4, reduceAdd → kn5, reduceSub → kn6, reduceMul → kn7, reduceDiv → kn8, reduceLeDiff → kn9, reduceLT → kn0, zero_lt_one → kq1, zero_add → kq2, zero_le → kq3, le_refl → kq4
open Int renaming reduceToNat → kz1, reduceAdd → kz2, reduceSub → kz3, reduceMul → kz4, reduceDiv → kz5, reduceMod → kz6, reduceLE → kz7, reduceLT → kz8, reduceNeg → kz9, reduceEq → kz0
set_option maxRecDepth 10000
set_option linter.unusedSimpArgs false
set_option linter.unusedVariables false
end Go.Proofs.YteomkgcepiecjaaGreat.I
/- gfpow: Rounds, bits, square, Pow, X, Squares. -/
namespace Go.Proofs.YteomkgcepiecjaaGreat.I
open Go
open Nat renaming reduceEqDiff → kn1, reduceBEq → kn2, reducePow → kn3, reduceMod → kn4, reduceAdd → kn5, reduceSub → kn6, reduceMul → kn7, reduceDiv → kn8, reduceLeDiff → kn9, reduceLT → kn0, zero_lt_one → kq1, zero_add → kq2, zero_le → kq3, le_refl → kq4
open Int renaming reduceToNat → kz1, reduceAdd → kz2, reduceSub → kz3, reduceMul → kz4, reduceDiv → kz5, reduceMod → kz6, reduceLE → kz7, reduceLT → kz8, reduceNeg → kz9, reduceEq → kz0
set_option maxRecDepth 10000
set_option linter.unusedSimpArgs false
set_option linter.unusedVariables false
@[go_sem] noncomputable def c_gfpow_Rounds : Cn := fn1 tW (fun _ => True) fun x => .z (bl x)
noncomputable def cx_gfpow_Rounds : Cx := { T := T, E := E, cs := [(217, c_wide_Len)], sch := [], ob := [], qs := [217] }
@[go_sem] theorem cx_gfpow_Rounds_e : cx_gfpow_Rounds.gs = none ∧ cx_gfpow_Rounds.md = 0 ∧ cx_gfpow_Rounds.T = T ∧ cx_gfpow_Rounds.E = E ∧ cx_gfpow_Rounds.cs = [(217, c_wide_Len)] ∧ ∀ d, (cx_gfpow_Rounds.ob).contains d = false := ⟨rfl, rfl, rfl, rfl, rfl, fun _ => rfl⟩
theorem cok_gfpow_Rounds : COk Tryz.prog (cx_gfpow_Rounds) := cok_of rfl (.cons ok_wide_Len (.nil)) (.cons (fun _ => fn1_quiet) (.nil)) (.nil)
theorem ok_gfpow_Rounds : Ok Tryz.prog 210 c_gfpow_Rounds := by
  refine ok_fn1 cok_gfpow_Rounds mixed Tryz.func210 rfl (by kernel_rfl) (by kernel_rfl) rfl ?_
  intro x om hw _
  simp only [go_sem, Tryz.f210, kn1, kn2, kn3, kn4, kn5, kn6, kn7, kn8, kn9, kz1, kz2, kz3, kz4, kz5, kz6, kz7, kz8, kz9, kz0, reduceCtorEq, String.reduceEq]
  exact Nat.zero_lt_one
@[go_sem] def c_gfpow_square : Cn := fn2 tU tU (fun xs ps => xs.length ≤ 262144 ∧ ps.length ≤ 1048576 ∧ pv ps ≠ 0) fun xs ps => vP (rm (cm (pv xs) (pv xs)) (pv ps))
noncomputable def cx_gfpow_square : Cx := { T := T, E := E, cs := [(200, c_gfdiv_Mod), (212, c_gfp_Square)], sch := [], ob := [], qs := [200, 212] }
@[go_sem] theorem cx_gfpow_square_e : cx_gfpow_square.gs = none ∧ cx_gfpow_square.md = 0 ∧ cx_gfpow_square.T = T ∧ cx_gfpow_square.E = E ∧ cx_gfpow_square.cs = [(200, c_gfdiv_Mod), (212, c_gfp_Square)] ∧ ∀ d, (cx_gfpow_square.ob).contains d = false := ⟨rfl, rfl, rfl, rfl, rfl, fun _ => rfl⟩
theorem cok_gfpow_square : COk Tryz.prog (cx_gfpow_square) := cok_of rfl (.cons ok_gfdiv_Mod (.cons ok_gfp_Square (.nil))) (.cons (fun _ => fn2i_quiet) (.cons (fun _ => fn1_quiet) (.nil))) (.nil)
theorem ok_gfpow_square : Ok Tryz.prog 202 c_gfpow_square := by
  refine ok_fn2 cok_gfpow_square mixed Tryz.func202 rfl (by kernel_rfl) (by kernel_rfl) rfl ?_
  intro xs ps om hw ⟨h1, h2, h3⟩
  have b1 := bl_pv (wf_u ⟨hw.1, trivial⟩).2
  have b2 := bl_cm_le (pv xs) (pv xs)
  simp only [go_sem, Tryz.f202, kn1, kn2, kn3, kn4, kn5, kn6, kn7, kn8, kn9, kz1, kz2, kz3, kz4, kz5, kz6, kz7, kz8, kz9, kz0, reduceCtorEq, String.reduceEq, h3]
  exact ⟨by omega, fun _ => by omega⟩
def goB (cy : Cn) (id : Nat) (cs : List V) (n : Nat) : Nat → Om → (V → Om → Prop) → Prop
  | 0, om, K => K (.tup []) om
  | i + 1, om, K => om id = some cs ∧ @cy [.z (tb n i)] om ⟨fun r om' => r = .b true ∧ goB cy id cs n i om' K⟩
theorem tW_agg {cs : List V} {n : Nat} (h : tW.dec (.agg cs) = some n) : cs = [.n .u64 (n / 18446744073709551616), .n .u64 (n % 18446744073709551616)] := by
  have := tW.h2 _ _ h
  rw [tW_enc] at this
  injection this
noncomputable def rc_gfpow_bits_1 (cy : Cn) : Cn
  | [.obj id 0], om, K => @so _ (om id) ⟨fun cs => @so _ (tW.dec (.agg cs)) ⟨fun n => n < 340282366920938463463374607431768211456 ∧ goB cy id cs n (bl n) om K.k⟩⟩
  | _, _, _ => False
noncomputable def cx_gfpow_bits_1 (l : Nat) (cy : Cn) : Cx := { T := T, E := E, cs := [(210, c_gfpow_Rounds), (211, c_wide_Bit)], sch := [], ob := [], qs := [210, 211], y := some (l, cy) }
@[go_sem] theorem cx_gfpow_bits_1_e (l : Nat) (cy : Cn) : (cx_gfpow_bits_1 l cy).gs = none ∧ (cx_gfpow_bits_1 l cy).md = 0 ∧ (cx_gfpow_bits_1 l cy).T = T ∧ (cx_gfpow_bits_1 l cy).E = E ∧ (cx_gfpow_bits_1 l cy).cs = [(210, c_gfpow_Rounds), (211, c_wide_Bit)] ∧ (cx_gfpow_bits_1 l cy).y = some (l, cy) ∧ ∀ d, ((cx_gfpow_bits_1 l cy).ob).contains d = false := ⟨rfl, rfl, rfl, rfl, rfl, rfl, fun _ => rfl⟩
theorem cok_gfpow_bits_1 (l : Nat) (cy : Cn) : COk Tryz.prog (cx_gfpow_bits_1 l cy) := cok_of rfl (.cons ok_gfpow_Rounds (.cons ok_wide_Bit (.nil))) (.cons (fun _ => fn1_quiet) (.cons (fun _ => fn2_quiet) (.nil))) (.nil)
theorem okR_gfpow_bits_1 : OkR Tryz.prog 209 rc_gfpow_bits_1 := by
  refine okR_of_body cok_gfpow_bits_1 mixed Tryz.func209 rfl (by kernel_rfl) (fun _ _ => by kernel_rfl) (fun _ _ => rfl) fun l cy caps om Q hm hw h => ?_
  unfold rc_gfpow_bits_1 at h
  split at h <;> first | exact h.elim | skip
  rename_i om _ _ _ id
  replace h := so_inv h; obtain ⟨cs, hcs, h⟩ := h
  replace h := so_inv h; obtain ⟨n, hn, h⟩ := h
  obtain rfl := tW_agg hn
  obtain ⟨hn128, h⟩ := h
  have hb : bl n ≤ 128 := bl_lt.2 hn128
  simp only [go_sem, Tryz.f209, kn1, kn2, kn3, kn4, kn5, kn6, kn7, kn8, kn9, kz1, kz2, kz3, kz4, kz5, kz6, kz7, kz8, kz9, kz0, reduceCtorEq, String.reduceEq, hcs]
  intro _
  refine ⟨by omega, Nat × Om, fun x => ⟨[.fn (Fn.yield l) [] [], .obj id 0, .u, .z ((x.1 : Int) - 1), .u, .u, .u, .u, .u, .u, .u, .u, .u, .u, .u, .u, .u], [], x.2⟩, fun x => x.1 ≤ bl n ∧ goB cy id [.n .u64 (n / 18446744073709551616), .n .u64 (n % 18446744073709551616)] n x.1 x.2 Q, fun x => x.1, ⟨(bl n, om), ⟨Nat.le_refl _, h⟩, ?_⟩, ?_⟩
  · simp only [go_sem, kn1, kn2, kn3, kn4, kn5, kn6, kn7, kn8, kn9, kz1, kz2, kz3, kz4, kz5, kz6, kz7, kz8, kz9, kz0, reduceCtorEq, String.reduceEq]
  · rintro ⟨i, om⟩ ⟨h1, h⟩
    simp only at h1 h
    cases i with
    | zero =>
      simp only [go_sem, kn1, kn2, kn3, kn4, kn5, kn6, kn7, kn8, kn9, kz1, kz2, kz3, kz4, kz5, kz6, kz7, kz8, kz9, kz0, reduceCtorEq, String.reduceEq]
      exact ⟨om, .refl _, h⟩
    | succ i =>
      obtain ⟨h2, h3⟩ := h
      simp only [go_sem, kn1, kn2, kn3, kn4, kn5, kn6, kn7, kn8, kn9, kz1, kz2, kz3, kz4, kz5, kz6, kz7, kz8, kz9, kz0, reduceCtorEq, String.reduceEq, h2]
      refine ⟨fun _ _ => ?_, fun h => absurd (show (0 : Int) ≤ ((i + 1 : Nat) : Int) - 1 by omega) h⟩
      rw [show ((i + 1 : Nat) : Int) - 1 = i by omega]
      refine hm _ _ _ _ (fun r om' hr => ?_) h3
      obtain ⟨rfl, hr⟩ := hr
      simp only [go_sem, kn1, kn2, kn3, kn4, kn5, kn6, kn7, kn8, kn9, kz1, kz2, kz3, kz4, kz5, kz6, kz7, kz8, kz9, kz0, reduceCtorEq, String.reduceEq]
      exact ⟨by omega, (i, om'), ⟨by show i ≤ _; omega, hr⟩, ⟨rfl, .refl _⟩, Nat.lt_succ_self _⟩
noncomputable def c_gfpow_bits : Cn
  | [a], om, K => @so _ (tW.dec a) ⟨fun n => ∀ id, om id = none → K.k (.fn (.func 209) [] [.obj id 0]) (om.put id [.n .u64 (n / 18446744073709551616), .n .u64 (n % 18446744073709551616)])⟩
  | _, _, _ => False
attribute [go_sem] c_gfpow_bits.eq_1
theorem c_gfpow_bits_mono : Mono c_gfpow_bits := by
  intro args om K K' hK h
  unfold c_gfpow_bits at h ⊢
  split at h
  · exact mono_so (fun x h id hid => hK _ _ (h id hid)) h
  · exact h.elim
theorem quiet_gfpow_bits : Quiet c_gfpow_bits := by
  intro args om K h
  unfold c_gfpow_bits at h ⊢
  split at h
  · exact mono_so (fun x h id hid => ⟨.put hid (.refl _), h id hid⟩) h
  · exact h.elim
noncomputable def cx_gfpow_bits : Cx := { T := T, E := E, cs := [], sch := [], ob := [1], qs := [] }
@[go_sem] theorem cx_gfpow_bits_e : cx_gfpow_bits.gs = none ∧ cx_gfpow_bits.md = 0 ∧ cx_gfpow_bits.T = T ∧ cx_gfpow_bits.E = E ∧ cx_gfpow_bits.cs = [] ∧ cx_gfpow_bits.ob = [1] := ⟨rfl, rfl, rfl, rfl, rfl, rfl⟩
theorem cok_gfpow_bits : COk Tryz.prog (cx_gfpow_bits) := cok_of rfl (.nil) (.nil) (.nil)
theorem ok_gfpow_bits : Ok Tryz.prog 201 c_gfpow_bits := by
  refine ok_of_body1 cok_gfpow_bits mixed Tryz.func201 rfl (by kernel_rfl) (by kernel_rfl) c_gfpow_bits_mono fun args om Q hw h => ?_
  unfold c_gfpow_bits at h
  split at h <;> first | exact h.elim | skip
  rename_i om _ _ _ a
  replace h := so_inv h; obtain ⟨n, hn, h⟩ := h
  obtain rfl := tW.h2 _ _ hn
  simp only [go_sem, Tryz.f201, kn1, kn2, kn3, kn4, kn5, kn6, kn7, kn8, kn9, kz1, kz2, kz3, kz4, kz5, kz6, kz7, kz8, kz9, kz0, reduceCtorEq, String.reduceEq]
  exact h
def pstep (r a p : Nat) (b : Int) : Nat := if b = 1 then rm (cm (rm (cm r r) p) a) p else rm (cm r r) p
noncomputable def powCy (a : Nat) (ps : List Nat) (ia io ip : Nat) : Cn
  | [.z b], om, K => (b = 0 ∨ b = 1) ∧ om ia = some [vP (rm a (pv ps))] ∧ om ip = some [.sl (els (V.n .u64) ps)] ∧ ∃ r, bl r < bl (pv ps) ∧ om io = some [vP r] ∧ K.k (.b true) (om.put io [vP (pstep r (rm a (pv ps)) (pv ps) b)])
  | _, _, _ => False
theorem powCy_mono (a : Nat) (ps : List Nat) (ia io ip : Nat) : Mono (powCy a ps ia io ip) := by
  intro args om K K' hK h
  unfold powCy at h ⊢
  split at h
  · obtain ⟨h1, h2, h3, r, h4, h5, h6⟩ := h
    exact ⟨h1, h2, h3, r, h4, h5, hK _ _ h6⟩
  · exact h.elim
theorem powCy_inv {a : Nat} {ps : List Nat} {ia io ip : Nat} {args : List V} {om : Om} {K : V → Om → Prop} (h : @powCy a ps ia io ip args om ⟨K⟩) : ∃ b, args = [.z b] ∧ (b = 0 ∨ b = 1) ∧ om ia = some [vP (rm a (pv ps))] ∧ om ip = some [.sl (els (V.n .u64) ps)] ∧ ∃ r, bl r < bl (pv ps) ∧ om io = some [vP r] ∧ K (.b true) (om.put io [vP (pstep r (rm a (pv ps)) (pv ps) b)]) := by
  unfold powCy at h
  split at h
  · exact ⟨_, rfl, h⟩
  · exact h.elim
theorem put_same {om : Om} {i : Nat} {a : List V} (h : om i = some a) : om.put i a = om := by
  funext k; unfold Om.put; by_cases e : k = i
  · subst e; simp [h]
  · simp [e]
theorem put_get (om : Om) (i : Nat) (a : List V) : (om.put i a) i = some a := by unfold Om.put; simp
theorem put_other (om : Om) {i j : Nat} (a : List V) (h : j ≠ i) : (om.put i a) j = om j := by unfold Om.put; simp [h]
theorem tb01 (n : Nat) (i : Int) : tb n i = 0 ∨ tb n i = 1 := by unfold tb; split <;> simp
theorem pwr_step (a : Nat) {p : Nat} (hp : p ≠ 0) (n i : Nat) : pwr a p (n >>> i) = pstep (pwr a p (n >>> (i + 1))) (rm a p) p (tb n i) := by
  rw [pwr_bit a hp]
  unfold pstep tb
  rw [Int.toNat_natCast]
  by_cases h : n.testBit i = true
  · rw [if_pos h, if_pos (by simp [h])]
  · rw [if_neg h, if_neg (by simp [h])]
theorem goB_pow {a : Nat} {ps : List Nat} (hp : pv ps ≠ 0) {ia io ip id : Nat} (h1 : ia ≠ io) (h2 : ip ≠ io) (h3 : id ≠ io) {om : Om} (e1 : om ia = some [vP (rm a (pv ps))]) (e2 : om ip = some [.sl (els (V.n .u64) ps)]) {cs : List V} (e3 : om id = some cs) {n : Nat} {K : V → Om → Prop}
    (hK : K (.tup []) (om.put io [vP (pwr a (pv ps) n)])) : ∀ i, goB (powCy a ps ia io ip) id cs n i (om.put io [vP (pwr a (pv ps) (n >>> i))]) K
  | 0 => hK
  | i + 1 => by
    refine ⟨by rw [put_other _ _ h3]; exact e3, ?_⟩
    refine ⟨tb01 _ _, by rw [put_other _ _ h1]; exact e1, by rw [put_other _ _ h2]; exact e2, _, pwr_lt a hp _, put_get _ _ _, ?_⟩
    show V.b true = V.b true ∧ _
    rw [om_put_put, ← pwr_step a hp]
    exact ⟨rfl, goB_pow hp h1 h2 h3 e1 e2 e3 hK i⟩
theorem rangeR_intro {cx : Cx} {st : St} {f : FuncId} {caps : List V} {ps : List Tmp} {A : C2 St (C2 Ex St)} {R : C2 St (C2 Ex St)} {Q : C2 Ex St} {rc : Cn → Cn} (h0 : cleans caps = true) (hl : lkR cx.rs f = some rc) (cy : Cn)
    (h1 : ∀ args om K, wfs args → @cy args om ⟨K⟩ → args.length = ps.length ∧
        A.k ⟨fillIn (st.env.map clear1) ps args, [], om⟩ ⟨fun | .nrm, st => R.k ⟨st.env.map clear1, [], st.om⟩ ⟨fun | .nrm, st => ∃ om', OmKept om' st.om ∧ K (.b true) om' | _, _ => False⟩ | _, _ => False⟩)
    (hm : Mono cy) (h3 : @rc cy caps st.om ⟨fun _ om => Q.k .nrm ⟨st.env.map clear1, [], om⟩⟩) : @rangeR cx st (.fn (.func f) [] caps) ps A R Q := by
  unfold rangeR
  refine ⟨h0, ?_⟩
  rw [hl]
  exact ⟨cy, h1, hm, h3⟩
theorem upP_zero (m : Nat) : upP m 0 = m := by simp [upP]
@[go_sem] noncomputable def c_gfpow_Pow : Cn := fn3i tU tW tU (fun xs n ps => xs.length ≤ 1048576 ∧ ps.length ≤ 262144) (fun _ _ ps => pv ps = 0) (fun _ _ _ => .tup [vP 0, .z 8]) fun xs n ps => .tup [vP (pwr (pv xs) (pv ps) n), .z 0]
noncomputable def cx_gfpow_Pow : Cx := { T := T, E := E, cs := [(196, c_gfp_X), (200, c_gfdiv_Mod), (201, c_gfpow_bits), (202, c_gfpow_square), (203, c_gfdiv_MulMod)], sch := [(4, false, .take 1 (.alt 0 (.alt 2 (.take 3 (.take 4 (.take 5 (.alt 6 (.alt 7 (.take 8 (.done)) .no) .no)))) (.alt 6 (.alt 2 (.take 3 (.take 4 (.take 5 (.alt 7 (.take 8 (.done)) .no)))) .no) (.no))) (.alt 6 (.alt 0 (.alt 2 (.take 3 (.take 4 (.take 5 (.alt 7 (.take 8 (.done)) .no)))) .no) .no) (.no))))], ob := [3,5,9], qs := [196, 200, 201, 202, 203], rs := [(209, rc_gfpow_bits_1)] }
@[go_sem] theorem cx_gfpow_Pow_e : cx_gfpow_Pow.gs = none ∧ cx_gfpow_Pow.md = 0 ∧ cx_gfpow_Pow.T = T ∧ cx_gfpow_Pow.E = E ∧ cx_gfpow_Pow.cs = [(196, c_gfp_X), (200, c_gfdiv_Mod), (201, c_gfpow_bits), (202, c_gfpow_square), (203, c_gfdiv_MulMod)] ∧ cx_gfpow_Pow.rs = [(209, rc_gfpow_bits_1)] ∧ cx_gfpow_Pow.sch = [(4, false, .take 1 (.alt 0 (.alt 2 (.take 3 (.take 4 (.take 5 (.alt 6 (.alt 7 (.take 8 (.done)) .no) .no)))) (.alt 6 (.alt 2 (.take 3 (.take 4 (.take 5 (.alt 7 (.take 8 (.done)) .no)))) .no) (.no))) (.alt 6 (.alt 0 (.alt 2 (.take 3 (.take 4 (.take 5 (.alt 7 (.take 8 (.done)) .no)))) .no) .no) (.no))))] ∧ cx_gfpow_Pow.ob = [3,5,9] := ⟨rfl, rfl, rfl, rfl, rfl, rfl, rfl, rfl⟩
theorem cok_gfpow_Pow : COk Tryz.prog (cx_gfpow_Pow) := cok_of rfl (.cons ok_gfp_X (.cons ok_gfdiv_Mod (.cons ok_gfpow_bits (.cons ok_gfpow_square (.cons ok_gfdiv_MulMod (.nil)))))) (.cons (fun _ => fn1_quiet) (.cons (fun _ => fn2i_quiet) (.cons (fun _ => quiet_gfpow_bits) (.cons (fun _ => fn2_quiet) (.cons (fun _ => fn3i_quiet) (.nil)))))) (.cons okR_gfpow_bits_1 (.nil))
set_option maxHeartbeats 4000000 in
theorem ok_gfpow_Pow : Ok Tryz.prog 195 c_gfpow_Pow := by
  refine ok_fn3i cok_gfpow_Pow mixed Tryz.func195 rfl (by kernel_rfl) (by kernel_rfl) rfl ?_
  intro xs n ps om hw ⟨hl, hl'⟩
  have hx := (wf_u ⟨hw.1, trivial⟩).2
  have hy := (wf_u ⟨hw.2.2.1, trivial⟩).2
  have hn := wf_w hw.2
  have b1 := bl_pv hx
  have b2 := bl_pv hy
  by_cases hp : pv ps = 0
  · simp (config := {contextual := true}) only [go_sem, Tryz.f195, kn1, kn2, kn3, kn4, kn5, kn6, kn7, kn8, kn9, kz1, kz2, kz3, kz4, kz5, kz6, kz7, kz8, kz9, kz0, reduceCtorEq, String.reduceEq, hp, new_iff, and_imp]
    intro i0 h0 i1 h1 h2 h3
    refine ⟨by omega, ?_⟩
    exact .put h0 (.put h3 (.put h0 (.refl _)))
  · have p1 := rm_lt (pv xs) hp
    have p2 := rm_lt 1 hp
    have hb1 : bl 1 = 1 := rfl
    have g1 : ((bl (rm (pv xs) (pv ps)) + 63) / 64 ≤ 9223372036854775807) = True := eq_true (by omega)
    have g2 : ((bl 1 + 63) / 64 ≤ 9223372036854775807) = True := eq_true (by omega)
    have g3 : ((bl (rm 1 (pv ps)) + 63) / 64 ≤ 9223372036854775807) = True := eq_true (by omega)
    simp (config := {contextual := true}) only [go_sem, Tryz.f195, kn1, kn2, kn3, kn4, kn5, kn6, kn7, kn8, kn9, kz1, kz2, kz3, kz4, kz5, kz6, kz7, kz8, kz9, kz0, reduceCtorEq, String.reduceEq, hp, new_iff, and_imp, upP_zero, g1, g2, g3]
    intro i0 h0 i1 h1 h2 h3
    refine ⟨by omega, ?_⟩
    repeat' (first | with_reducible refine And.intro ?_ ?_ | with_reducible intro _)
    all_goals first | omega | skip
    all_goals
      rename_i i2 k0 k1 k2 k3 k4 i3 m0 m1 m2 m3 m4 m5 m6
      refine rangeR_intro (rc := rc_gfpow_bits_1) rfl rfl (powCy (pv xs) ps i0 i2 i1) (fun args om K ha hc => ?_) (powCy_mono _ _ _ _ _) ?_
    all_goals first
      | (
          obtain ⟨b, rfl, c0, c1, c2, r, c3, c4, c5⟩ := powCy_inv hc
          have g4 : ((bl (rm (cm r r) (pv ps)) + 63) / 64 ≤ 9223372036854775807) = True := eq_true (by have := rm_lt (cm r r) hp; omega)
          have g5 := rm_lt (cm r r) hp
          rcases c0 with rfl | rfl
          · simp only [go_sem, Tryz.f195, kn1, kn2, kn3, kn4, kn5, kn6, kn7, kn8, kn9, kz1, kz2, kz3, kz4, kz5, kz6, kz7, kz8, kz9, kz0, reduceCtorEq, String.reduceEq, hp, c1, c2, c4, g4, k0, k1, k2, k3, h1, h2]
            exact ⟨by omega, _, .refl _, c5⟩
          · simp only [go_sem, Tryz.f195, kn1, kn2, kn3, kn4, kn5, kn6, kn7, kn8, kn9, kz1, kz2, kz3, kz4, kz5, kz6, kz7, kz8, kz9, kz0, reduceCtorEq, String.reduceEq, hp, c1, c2, c4, g4, k0, k1, k2, k3, h1, h2]
            exact ⟨by omega, by omega, fun _ => ⟨_, .refl _, c5⟩⟩)
      | (
          simp only [go_sem, Tryz.f195, kn1, kn2, kn3, kn4, kn5, kn6, kn7, kn8, kn9, kz1, kz2, kz3, kz4, kz5, kz6, kz7, kz8, kz9, kz0, reduceCtorEq, String.reduceEq, rc_gfpow_bits_1.eq_1, m0, m1, m2, m3, m4, m5, m6]
          refine ⟨hn, ?_⟩
          have z : n >>> bl n = 0 := by rw [Nat.shiftRight_eq_div_pow]; exact Nat.div_eq_of_lt (bl_lt.1 (Nat.le_refl _))
          have e := fun (X : Om) (K : V → Om → Prop) (h1 : X i0 = some [vP (rm (pv xs) (pv ps))]) (h2 : X i1 = some [.sl (els (V.n .u64) ps)]) (h3 : X i3 = some [V.n IntKind.u64 (n / 18446744073709551616), V.n IntKind.u64 (n % 18446744073709551616)]) (h4 : X i2 = some [vP (rm 1 (pv ps))]) (hK : K (.tup []) (X.put i2 [vP (pwr (pv xs) (pv ps) n)])) =>
            (goB_pow (a := pv xs) (ps := ps) (ia := i0) (io := i2) (ip := i1) (id := i3) (n := n) (K := K) hp k1 k3 m0 h1 h2 h3 hK (bl n))
          rw [z] at e
          have e' := fun X K h1 h2 h3 h4 hK => (put_same h4) ▸ e X K h1 h2 h3 h4 hK
          refine e' _ _ ?_ ?_ ?_ ?_ ?_
          · simp only [go_sem, kn1, kn2, kn3, kn4, kn5, kn6, kn7, kn8, kn9, kz1, kz2, kz3, kz4, kz5, kz6, kz7, kz8, kz9, kz0, reduceCtorEq, String.reduceEq, k0, k1, k2, k3, k4, m0, m1, m2, m3, m4, m5, h1, h2]
          · simp only [go_sem, kn1, kn2, kn3, kn4, kn5, kn6, kn7, kn8, kn9, kz1, kz2, kz3, kz4, kz5, kz6, kz7, kz8, kz9, kz0, reduceCtorEq, String.reduceEq, k0, k1, k2, k3, k4, m0, m1, m2, m3, m4, m5, h1, h2]
          · simp only [go_sem, kn1, kn2, kn3, kn4, kn5, kn6, kn7, kn8, kn9, kz1, kz2, kz3, kz4, kz5, kz6, kz7, kz8, kz9, kz0, reduceCtorEq, String.reduceEq, k0, k1, k2, k3, k4, m0, m1, m2, m3, m4, m5, h1, h2]
          · simp only [go_sem, kn1, kn2, kn3, kn4, kn5, kn6, kn7, kn8, kn9, kz1, kz2, kz3, kz4, kz5, kz6, kz7, kz8, kz9, kz0, reduceCtorEq, String.reduceEq, k0, k1, k2, k3, k4, m0, m1, m2, m3, m4, m5, h1, h2]
          · simp only [go_sem, kn1, kn2, kn3, kn4, kn5, kn6, kn7, kn8, kn9, kz1, kz2, kz3, kz4, kz5, kz6, kz7, kz8, kz9, kz0, reduceCtorEq, String.reduceEq, k0, k1, k2, k3, k4, m0, m1, m2, m3, m4, m5, h1, h2]
            exact .put k4 (.put m6 (.put k4 (.put h0 (.put h3 (.put h0 (.refl _)))))))
end Go.Proofs.YteomkgcepiecjaaGreat.I
/- gfpow: X, Squares, Irreducible. -/
namespace Go.Proofs.YteomkgcepiecjaaGreat.I
open Go
open Nat renaming reduceEqDiff → kn1, reduceBEq → kn2, reducePow → kn3, reduceMod → kn4, reduceAdd → kn5, reduceSub → kn6, reduceMul → kn7, reduceDiv → kn8, reduceLeDiff → kn9, reduceLT → kn0, zero_lt_one → kq1, zero_add → kq2, zero_le → kq3, le_refl → kq4
open Int renaming reduceToNat → kz1, reduceAdd → kz2, reduceSub → kz3, reduceMul → kz4, reduceDiv → kz5, reduceMod → kz6, reduceLE → kz7, reduceLT → kz8, reduceNeg → kz9, reduceEq → kz0
set_option maxRecDepth 10000
set_option linter.unusedSimpArgs false
set_option linter.unusedVariables false
@[go_sem] noncomputable def c_gfpow_X : Cn := fn2i tW tU (fun _ ps => ps.length ≤ 262144) (fun _ ps => pv ps = 0) (fun _ _ => .tup [vP 0, .z 8]) fun n ps => .tup [vP (pwr 2 (pv ps) n), .z 0]
noncomputable def cx_gfpow_X : Cx := { T := T, E := E, cs := [(195, c_gfpow_Pow), (196, c_gfp_X)], sch := [(1, false, .take 1 (.take 2 (.alt 0 (.alt 3 (.take 4 (.take 5 (.take 6 (.take 7 (.done))))) .no) .no)))], ob := [], qs := [195, 196] }
@[go_sem] theorem cx_gfpow_X_e : cx_gfpow_X.gs = none ∧ cx_gfpow_X.md = 0 ∧ cx_gfpow_X.T = T ∧ cx_gfpow_X.E = E ∧ cx_gfpow_X.cs = [(195, c_gfpow_Pow), (196, c_gfp_X)] ∧ cx_gfpow_X.sch = [(1, false, .take 1 (.take 2 (.alt 0 (.alt 3 (.take 4 (.take 5 (.take 6 (.take 7 (.done))))) .no) .no)))] ∧ ∀ d, (cx_gfpow_X.ob).contains d = false := ⟨rfl, rfl, rfl, rfl, rfl, rfl, fun _ => rfl⟩
theorem cok_gfpow_X : COk Tryz.prog (cx_gfpow_X) := cok_of rfl (.cons ok_gfpow_Pow (.cons ok_gfp_X (.nil))) (.cons (fun _ => fn3i_quiet) (.cons (fun _ => fn1_quiet) (.nil))) (.nil)
theorem ok_gfpow_X : Ok Tryz.prog 191 c_gfpow_X := by
  refine ok_fn2i cok_gfpow_X mixed Tryz.func191 rfl (by kernel_rfl) (by kernel_rfl) rfl ?_
  intro n ps om hw hl
  have hy := (wf_u hw.2).2
  have hn := wf_w hw
  have b2 := bl_pv hy
  have e1 : upP 1 1 = 2 := rfl
  have b3 : bl 2 = 2 := rfl
  have g2 : ((bl 2 + 63) / 64 ≤ 9223372036854775807) = True := eq_true (by omega)
  by_cases hp : pv ps = 0
  · simp only [go_sem, Tryz.f191, kn1, kn2, kn3, kn4, kn5, kn6, kn7, kn8, kn9, kz1, kz2, kz3, kz4, kz5, kz6, kz7, kz8, kz9, kz0, reduceCtorEq, String.reduceEq, hp, e1, g2]
    repeat' (first | with_reducible refine And.intro ?_ ?_ | with_reducible intro _)
    all_goals first | omega | trivial
  · simp only [go_sem, Tryz.f191, kn1, kn2, kn3, kn4, kn5, kn6, kn7, kn8, kn9, kz1, kz2, kz3, kz4, kz5, kz6, kz7, kz8, kz9, kz0, reduceCtorEq, String.reduceEq, hp, e1, g2]
    repeat' (first | with_reducible refine And.intro ?_ ?_ | with_reducible intro _)
    all_goals first | omega | trivial
end Go.Proofs.YteomkgcepiecjaaGreat.I
