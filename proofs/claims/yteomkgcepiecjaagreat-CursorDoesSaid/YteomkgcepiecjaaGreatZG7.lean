/- Texts of the ideal machine, or of plain numbers, one behind the other: Philox, Half, Halfw. -/
import Derived.Test.YteomkgcepiecjaaGreatZG4
/- philox: Round, Next, steps, Mix, Out. -/
namespace Go.Proofs.YteomkgcepiecjaaGreat.I
open Go
open Nat renaming reduceEqDiff → kn1, reduceBEq → kn2, reducePow → kn3, reduceMod → kn4, reduceAdd → kn5, reduceSub → kn6, reduceMul → kn7, reduceDiv → kn8, reduceLeDiff → kn9, reduceLT → kn0, zero_lt_one → kq1, zero_add → kq2, zero_le → kq3, le_refl → kq4
open Int renaming reduceToNat → kz1, reduceAdd → kz2, reduceSub → kz3, reduceMul → kz4, reduceDiv → kz5, reduceMod → kz6, reduceLE → kz7, reduceLT → kz8, reduceNeg → kz9, reduceEq → kz0
set_option maxRecDepth 10000
set_option linter.unusedSimpArgs false
set_option linter.unusedVariables false
def vY (s : X4) : V := .agg [.n .u32 s.a, .n .u32 s.b, .n .u32 s.c, .n .u32 s.d]
@[go_sem] theorem vY_eq (s : X4) : vY s = .agg [.n .u32 s.a, .n .u32 s.b, .n .u32 s.c, .n .u32 s.d] := rfl
noncomputable def tY : Ty X4 := Ty.by vY fun s t h => by
  cases s; cases t
  simp only [vY_eq, V.agg.injEq, List.cons.injEq, V.n.injEq, true_and, and_true] at h
  simp [h]
@[go_sem] theorem tY_enc (s : X4) : tY.enc s = .agg [.n .u32 s.a, .n .u32 s.b, .n .u32 s.c, .n .u32 s.d] := rfl
@[go_sem] theorem tY_dec (a b c d : Nat) : tY.dec (.agg [.n .u32 a, .n .u32 b, .n .u32 c, .n .u32 d]) = some ⟨a, b, c, d⟩ := tY.h1 ⟨a, b, c, d⟩
structure K2 where
  a : Nat
  b : Nat
deriving DecidableEq
def vK (s : K2) : V := .agg [.n .u32 s.a, .n .u32 s.b]
@[go_sem] theorem vK_eq (s : K2) : vK s = .agg [.n .u32 s.a, .n .u32 s.b] := rfl
noncomputable def tK : Ty K2 := Ty.by vK fun s t h => by
  cases s; cases t
  simp only [vK_eq, V.agg.injEq, List.cons.injEq, V.n.injEq, true_and, and_true] at h
  simp [h]
@[go_sem] theorem tK_enc (s : K2) : tK.enc s = .agg [.n .u32 s.a, .n .u32 s.b] := rfl
@[go_sem] theorem tK_dec (a b : Nat) : tK.dec (.agg [.n .u32 a, .n .u32 b]) = some ⟨a, b⟩ := tK.h1 ⟨a, b⟩
def phA (x m : Nat) : Nat := x % 18446744073709551616 * m % 18446744073709551616
def phR (s : X4) (k : K2) : X4 :=
  ⟨(phA s.c 3449720151 >>> 32) % 4294967296 ^^^ s.b ^^^ k.a, phA s.c 3449720151 % 4294967296, (phA s.a 3528531795 >>> 32) % 4294967296 ^^^ s.d ^^^ k.b, phA s.a 3528531795 % 4294967296⟩
@[go_sem] noncomputable def c_philox_Round : Cn := fn2 tY tK (fun _ _ => True) fun s k => vY (phR s k)
noncomputable def cx_philox_Round : Cx := { T := T, E := E, cs := [], sch := [(1, false, .take 0 (.take 1 (.take 2 (.take 3 (.take 4 (.take 5 (.take 6 (.take 7 (.take 8 (.take 9 (.done)))))))))))], ob := [], qs := [] }
@[go_sem] theorem cx_philox_Round_e : cx_philox_Round.gs = none ∧ cx_philox_Round.md = 0 ∧ cx_philox_Round.T = T ∧ cx_philox_Round.E = E ∧ cx_philox_Round.cs = [] ∧ cx_philox_Round.sch = [(1, false, .take 0 (.take 1 (.take 2 (.take 3 (.take 4 (.take 5 (.take 6 (.take 7 (.take 8 (.take 9 (.done)))))))))))] ∧ ∀ d, (cx_philox_Round.ob).contains d = false := ⟨rfl, rfl, rfl, rfl, rfl, rfl, fun _ => rfl⟩
theorem cok_philox_Round : COk Tryz.prog (cx_philox_Round) := cok_of rfl (.nil) (.nil) (.nil)
theorem ok_philox_Round : Ok Tryz.prog 256 c_philox_Round := by
  refine ok_fn2 cok_philox_Round mixed Tryz.func256 rfl (by kernel_rfl) (by kernel_rfl) rfl ?_
  intro s k om hw _
  simp only [go_sem, Tryz.f256, kn1, kn2, kn3, kn4, kn5, kn6, kn7, kn8, kn9, kz1, kz2, kz3, kz4, kz5, kz6, kz7, kz8, kz9, kz0, reduceCtorEq, String.reduceEq, kn0, kq1, kq2, kq3, kq4, Int.toNat_natCast, phR, phA]
def phN (k : K2) : K2 := ⟨(k.a + 2654435769) % 4294967296, (k.b + 3144134277) % 4294967296⟩
@[go_sem] noncomputable def c_philox_Next : Cn := fn1 tK (fun _ => True) fun k => vK (phN k)
noncomputable def cx_philox_Next : Cx := { T := T, E := E, cs := [], sch := [], ob := [], qs := [] }
@[go_sem] theorem cx_philox_Next_e : cx_philox_Next.gs = none ∧ cx_philox_Next.md = 0 ∧ cx_philox_Next.T = T ∧ cx_philox_Next.E = E ∧ cx_philox_Next.cs = [] ∧ ∀ d, (cx_philox_Next.ob).contains d = false := ⟨rfl, rfl, rfl, rfl, rfl, fun _ => rfl⟩
theorem cok_philox_Next : COk Tryz.prog (cx_philox_Next) := cok_of rfl (.nil) (.nil) (.nil)
theorem ok_philox_Next : Ok Tryz.prog 259 c_philox_Next := by
  refine ok_fn1 cok_philox_Next mixed Tryz.func259 rfl (by kernel_rfl) (by kernel_rfl) rfl ?_
  intro k om hw _
  simp only [go_sem, Tryz.f259, kn1, kn2, kn3, kn4, kn5, kn6, kn7, kn8, kn9, kz1, kz2, kz3, kz4, kz5, kz6, kz7, kz8, kz9, kz0, reduceCtorEq, String.reduceEq, kn0, kq1, kq2, kq3, kq4, Int.toNat_natCast, phN]
noncomputable def c_philox_steps_1 : Cn
  | [a, .obj id 0], om, K => @so _ (tY.dec a) ⟨fun s => ∃ k : K2, om id = some [.n .u32 k.a, .n .u32 k.b] ∧ K.k (vY (phR s k)) om⟩
  | _, _, _ => False
attribute [go_sem] c_philox_steps_1.eq_1
theorem c_philox_steps_1_mono : Mono c_philox_steps_1 := by
  intro args om K K' hK h
  unfold c_philox_steps_1 at h ⊢
  split at h
  · exact mono_so (fun x ⟨k, h1, h2⟩ => ⟨k, h1, hK _ _ h2⟩) h
  · exact h.elim
theorem quiet_philox_steps_1 : Quiet c_philox_steps_1 := by
  intro args om K h
  unfold c_philox_steps_1 at h ⊢
  split at h
  · exact mono_so (fun x ⟨k, h1, h2⟩ => ⟨k, h1, .refl _, h2⟩) h
  · exact h.elim
noncomputable def cx_philox_steps_1 : Cx := { T := T, E := E, cs := [(256, c_philox_Round)], sch := [], ob := [], qs := [256] }
@[go_sem] theorem cx_philox_steps_1_e : cx_philox_steps_1.gs = none ∧ cx_philox_steps_1.md = 0 ∧ cx_philox_steps_1.T = T ∧ cx_philox_steps_1.E = E ∧ cx_philox_steps_1.cs = [(256, c_philox_Round)] ∧ ∀ d, (cx_philox_steps_1.ob).contains d = false := ⟨rfl, rfl, rfl, rfl, rfl, fun _ => rfl⟩
theorem cok_philox_steps_1 : COk Tryz.prog (cx_philox_steps_1) := cok_of rfl (.cons ok_philox_Round (.nil)) (.cons (fun _ => fn2_quiet) (.nil)) (.nil)
theorem ok_philox_steps_1 : Ok Tryz.prog 255 c_philox_steps_1 := by
  refine ok_of_body1 cok_philox_steps_1 mixed Tryz.func255 rfl (by kernel_rfl) (by kernel_rfl) c_philox_steps_1_mono fun args om Q hw h => ?_
  unfold c_philox_steps_1 at h
  split at h <;> first | exact h.elim | skip
  rename_i om _ _ a id
  replace h := so_inv h; obtain ⟨s, hs, k, hk, h⟩ := h
  obtain rfl := tY.h2 _ _ hs
  simp only [go_sem, Tryz.f255, kn1, kn2, kn3, kn4, kn5, kn6, kn7, kn8, kn9, kz1, kz2, kz3, kz4, kz5, kz6, kz7, kz8, kz9, kz0, reduceCtorEq, String.reduceEq, kn0, kq1, kq2, kq3, kq4, Int.toNat_natCast, hk]
  exact fun _ => h
def phK (k : K2) : Nat → K2
  | 0 => k
  | n + 1 => phN (phK k n)
def putK (om : Om) (k : K2) (n : Nat) : List Nat → Om
  | [] => om
  | id :: ids => (putK om k (n + 1) ids).put id [.n .u32 (phK k n).a, .n .u32 (phK k n).b]
def stepV (id : Nat) : V := .agg [.fn (.func 255) [] [.obj id 0], .fn (.func 257) [] [.obj id 0]]
theorem putK_get (om : Om) (k : K2) : ∀ (ids : List Nat) (n i : Nat) (h : i < ids.length), ids.Nodup → putK om k n ids ids[i] = some [.n .u32 (phK k (n + i)).a, .n .u32 (phK k (n + i)).b]
  | [], _, _, h, _ => by simp at h
  | id :: ids, n, 0, h, hd => by simp [putK, Om.put]
  | id :: ids, n, i + 1, h, hd => by
    have hd' := List.nodup_cons.1 hd
    have h' : i < ids.length := by simpa using h
    have ne : ids[i] ≠ id := fun e => hd'.1 (e ▸ List.getElem_mem h')
    simp only [List.getElem_cons_succ, putK, Om.put, ne, if_false]
    rw [putK_get om k ids (n + 1) i h' hd'.2, show n + 1 + i = n + (i + 1) by omega]
theorem putK_snoc (om : Om) (k : K2) : ∀ (ids : List Nat) (n id : Nat), id ∉ ids → putK om k n (ids ++ [id]) = (putK om k n ids).put id [.n .u32 (phK k (n + ids.length)).a, .n .u32 (phK k (n + ids.length)).b]
  | [], _, _, _ => rfl
  | j :: ids, n, id, h => by
    have h1 : id ∉ ids := fun e => h (List.mem_cons_of_mem _ e)
    have h2 : j ≠ id := fun e => h (e ▸ List.mem_cons_self)
    simp only [List.cons_append, putK]
    rw [putK_snoc om k ids (n + 1) id h1, om_put_comm _ (Ne.symm h2), List.length_cons, show n + 1 + ids.length = n + (ids.length + 1) by omega]
theorem putK_kept {om : Om} (k : K2) : ∀ {ids : List Nat} (n : Nat), (∀ id ∈ ids, om id = none) → OmKept om (putK om k n ids)
  | [], _, _ => .refl _
  | id :: ids, n, h => .put (h id List.mem_cons_self) (putK_kept k (n + 1) fun j hj => h j (List.mem_cons_of_mem _ hj))
theorem putK_none {om : Om} {k : K2} {id : Nat} : ∀ {ids : List Nat} {n : Nat}, putK om k n ids id = none → om id = none ∧ id ∉ ids
  | [], _, h => ⟨h, by simp⟩
  | j :: ids, n, h => by
    simp only [putK, Om.put] at h
    split at h
    · cases h
    · rename_i e
      obtain ⟨h1, h2⟩ := putK_none h
      exact ⟨h1, by simp [e, h2]⟩
noncomputable def c_philox_steps : Cn
  | [a, .z n], om, K => @so _ (tK.dec a) ⟨fun k => ((0 ≤ n ∧ n ≤ 100) → ∀ ids : List Nat, ids.length = n.toNat → ids.Nodup → (∀ id ∈ ids, om id = none) → K.k (.tup [.sl (ids.map stepV), .z 0]) (putK om k 0 ids)) ∧ (¬ (0 ≤ n ∧ n ≤ 100) → K.k (.tup [.sl [], .z 1]) om)⟩
  | _, _, _ => False
attribute [go_sem] c_philox_steps.eq_1
theorem c_philox_steps_mono : Mono c_philox_steps := by
  intro args om K K' hK h
  unfold c_philox_steps at h ⊢
  split at h
  · exact mono_so (fun x h => ⟨fun g ids h1 h2 h3 => hK _ _ (h.1 g ids h1 h2 h3), fun g => hK _ _ (h.2 g)⟩) h
  · exact h.elim
theorem quiet_philox_steps : Quiet c_philox_steps := by
  intro args om K h
  unfold c_philox_steps at h ⊢
  split at h
  · exact mono_so (fun x h => ⟨fun g ids h1 h2 h3 => ⟨putK_kept _ _ h3, h.1 g ids h1 h2 h3⟩, fun g => ⟨.refl _, h.2 g⟩⟩) h
  · exact h.elim
theorem stepV_uni (ids : List Nat) : uni 2 true (ids.map stepV) = true := by
  simp [uni, stepV, V.fits]
theorem stepV_clean (ids : List Nat) : cleans (ids.map stepV) = true := by
  rw [cleans_iff]; intro x hx
  obtain ⟨id, _, rfl⟩ := List.mem_map.1 hx; rfl
theorem stepV_within (hs : List Nat) (ids : List Nat) : withins hs (ids.map stepV) = true := by
  rw [withins_iff]; intro x hx
  obtain ⟨id, _, rfl⟩ := List.mem_map.1 hx; rfl
noncomputable def cx_philox_steps : Cx := { T := T, E := E, cs := [(259, c_philox_Next)], sch := [], ob := [7], qs := [259] }
@[go_sem] theorem cx_philox_steps_e : cx_philox_steps.gs = none ∧ cx_philox_steps.md = 0 ∧ cx_philox_steps.T = T ∧ cx_philox_steps.E = E ∧ cx_philox_steps.cs = [(259, c_philox_Next)] ∧ cx_philox_steps.ob = [7] := ⟨rfl, rfl, rfl, rfl, rfl, rfl⟩
theorem cok_philox_steps : COk Tryz.prog (cx_philox_steps) := cok_of rfl (.cons ok_philox_Next (.nil)) (.cons (fun _ => fn1_quiet) (.nil)) (.nil)
set_option maxHeartbeats 1000000 in
theorem ok_philox_steps : Ok Tryz.prog 254 c_philox_steps := by
  refine ok_of_body1 cok_philox_steps mixed Tryz.func254 rfl (by kernel_rfl) (by kernel_rfl) c_philox_steps_mono fun args om Q hw h => ?_
  unfold c_philox_steps at h
  split at h <;> first | exact h.elim | skip
  rename_i om1 om0 _ _ a n
  replace h := so_inv h; obtain ⟨k, hk, h1, h2⟩ := h
  obtain rfl := tK.h2 _ _ hk
  simp only [go_sem, Tryz.f254, kn1, kn2, kn3, kn4, kn5, kn6, kn7, kn8, kn9, kz1, kz2, kz3, kz4, kz5, kz6, kz7, kz8, kz9, kz0, reduceCtorEq, String.reduceEq, kn0, kq1, kq2, kq3, kq4, Int.toNat_natCast]
  refine ⟨fun g => h2 (by omega), fun g => ⟨fun g' => h2 (by omega), fun g' => ?_⟩⟩
  refine ⟨List Nat, fun ids => ⟨[.u, .z n, .ref 2 1 2 0 0, .u, .nils, .z 0, .row 23 ids.length ids.length, .u, .u, .u, .u, .u, .u, .u, .z n, .z ids.length, .u, .u, .u, .u, .u, .u, .u, .u, .u, .u, .u, .u], [(23, ⟨2, true, ids.map stepV, false⟩), (2, ⟨2, true, [vK (phK k ids.length)], false⟩)], putK om1 k 0 ids⟩,
    fun ids => ids.length ≤ n.toNat ∧ ids.Nodup ∧ ∀ id ∈ ids, om1 id = none, fun ids => n.toNat - ids.length, ⟨[], ⟨by simp, .nil, by simp⟩, ?_⟩, ?_⟩
  · simp only [go_sem, kn1, kn2, kn3, kn4, kn5, kn6, kn7, kn8, kn9, kz1, kz2, kz3, kz4, kz5, kz6, kz7, kz8, kz9, kz0, reduceCtorEq, String.reduceEq, kn0, kq1, kq2, kq3, kq4, Int.toNat_natCast, List.map_nil]
    exact ⟨⟨rfl, rfl⟩, .refl _⟩
  · intro ids hc
    obtain ⟨c1, c2, c3⟩ := hc
    simp only [go_sem, kn1, kn2, kn3, kn4, kn5, kn6, kn7, kn8, kn9, kz1, kz2, kz3, kz4, kz5, kz6, kz7, kz8, kz9, kz0, reduceCtorEq, String.reduceEq, kn0, kq1, kq2, kq3, kq4, Int.toNat_natCast, List.length_map, stepV_uni, stepV_clean, stepV_within]
    refine ⟨fun e id hid => ⟨by omega, fun _ => ⟨by omega, ids ++ [id], ?_⟩⟩, fun e => ?_⟩
    · obtain ⟨i1, i2⟩ := putK_none hid
      have hl : (ids ++ [id]).length = ids.length + 1 := by simp
      refine ⟨⟨by rw [hl]; omega, ?_, ?_⟩, ⟨⟨hl.symm, by rw [hl]; omega⟩, ⟨by rw [List.map_append]; rfl, ?_⟩, ?_⟩, by rw [hl]; omega⟩
      · rw [List.nodup_append]
        exact ⟨c2, List.pairwise_singleton _ _, fun a ha b hb e => i2 (by rw [← (by simpa using hb : b = id), ← e]; exact ha)⟩
      · intro j hj
        rcases List.mem_append.1 hj with hj | hj
        · exact c3 j hj
        · rw [List.mem_singleton.1 hj]; exact i1
      · rw [hl]; exact ⟨rfl, rfl⟩
      · rw [putK_snoc _ _ _ _ _ i2, Nat.zero_add]; exact .refl _
    · rw [List.take_of_length_le (by simp)]
      exact h1 (by omega) ids (by omega) c2 c3
def phM (s : X4) (k : K2) : Nat → X4
  | 0 => s
  | n + 1 => phR (phM s k n) (phK k n)
@[go_sem] noncomputable def c_philox_Mix : Cn := fn3 tY tK tZ (fun _ _ n => 0 ≤ n ∧ n ≤ 100) fun s k n => .tup [vY (phM s k n.toNat), .z 0]
noncomputable def cx_philox_Mix : Cx := { T := T, E := E, cs := [(254, c_philox_steps), (255, c_philox_steps_1)], sch := [], ob := [], qs := [254, 255] }
@[go_sem] theorem cx_philox_Mix_e : cx_philox_Mix.gs = none ∧ cx_philox_Mix.md = 0 ∧ cx_philox_Mix.T = T ∧ cx_philox_Mix.E = E ∧ cx_philox_Mix.cs = [(254, c_philox_steps), (255, c_philox_steps_1)] ∧ ∀ d, (cx_philox_Mix.ob).contains d = false := ⟨rfl, rfl, rfl, rfl, rfl, fun _ => rfl⟩
theorem cok_philox_Mix : COk Tryz.prog (cx_philox_Mix) := cok_of rfl (.cons ok_philox_steps (.cons ok_philox_steps_1 (.nil))) (.cons (fun _ => quiet_philox_steps) (.cons (fun _ => quiet_philox_steps_1) (.nil))) (.nil)
theorem ok_philox_Mix : Ok Tryz.prog 253 c_philox_Mix := by
  refine ok_fn3 cok_philox_Mix mixed Tryz.func253 rfl (by kernel_rfl) (by kernel_rfl) rfl ?_
  intro s k n om hw hn
  simp only [go_sem, Tryz.f253, kn1, kn2, kn3, kn4, kn5, kn6, kn7, kn8, kn9, kz1, kz2, kz3, kz4, kz5, kz6, kz7, kz8, kz9, kz0, reduceCtorEq, String.reduceEq, kn0, kq1, kq2, kq3, kq4, Int.toNat_natCast, hn]
  intro ids h1 h2 h3 _
  have hl : (ids.map stepV).length = ids.length := List.length_map _
  refine ⟨Nat, fun i => ⟨[.u, .u, .u, .ref 3 1 4 0 0, .u, .u, .ref 6 1 4 0 0, .u, .u, .u, .u, .u, .u, .u, .u, .u, .u, .u, .u, .u, .u, .u, .sl (ids.map stepV), .z (ids.map stepV).length, .z i, .u, .u, .u, .u, .u, .u, .u, .u, .u], [(6, ⟨4, true, [.agg [.n .u32 0, .n .u32 0, .n .u32 0, .n .u32 0]], false⟩), (3, ⟨4, true, [vY (phM s k i)], false⟩)], putK om k 0 ids⟩,
    fun i => i ≤ ids.length, fun i => ids.length - i, ⟨0, Nat.zero_le _, ?_⟩, ?_⟩
  · simp only [go_sem, kn1, kn2, kn3, kn4, kn5, kn6, kn7, kn8, kn9, kz1, kz2, kz3, kz4, kz5, kz6, kz7, kz8, kz9, kz0, reduceCtorEq, String.reduceEq, kn0, kq1, kq2, kq3, kq4, Int.toNat_natCast]
    exact ⟨rfl, rfl, rfl, rfl⟩
  · intro i hi
    by_cases hlt : i < ids.length
    · have e0 : ((i : Int) < ((ids.map stepV).length : Int)) = True := eq_true (by rw [hl]; omega)
      have e1 : (ids.map stepV).getD i (.agg [.nilf, .nilf]) = stepV ids[i] := by
        simp [List.getD_eq_getElem?_getD, hlt]
      have e2 := putK_get om k ids 0 i hlt h2
      rw [Nat.zero_add] at e2
      simp only [stepV] at e1
      simp only [go_sem, kn1, kn2, kn3, kn4, kn5, kn6, kn7, kn8, kn9, kz1, kz2, kz3, kz4, kz5, kz6, kz7, kz8, kz9, kz0, reduceCtorEq, String.reduceEq, kn0, kq1, kq2, kq3, kq4, Int.toNat_natCast, e0, e1, e2]
      exact ⟨by omega, phK k i, ⟨rfl, rfl⟩, fun _ => ⟨by omega, i + 1, hlt, ⟨by omega, rfl, rfl, rfl, rfl⟩, by omega⟩⟩
    · have e0 : ((i : Int) < ((ids.map stepV).length : Int)) = False := eq_false (by rw [hl]; omega)
      simp only [go_sem, kn1, kn2, kn3, kn4, kn5, kn6, kn7, kn8, kn9, kz1, kz2, kz3, kz4, kz5, kz6, kz7, kz8, kz9, kz0, reduceCtorEq, String.reduceEq, kn0, kq1, kq2, kq3, kq4, Int.toNat_natCast, e0]
      rw [show i = n.toNat by omega]
      exact ⟨putK_kept _ _ h3, rfl, rfl, rfl, rfl⟩
@[go_sem] noncomputable def c_philox_Out : Cn := fn2 tY tK (fun _ _ => True) fun s k => vY (phM s k 10)
noncomputable def cx_philox_Out : Cx := { T := T, E := E, cs := [(253, c_philox_Mix)], sch := [], ob := [], qs := [253] }
@[go_sem] theorem cx_philox_Out_e : cx_philox_Out.gs = none ∧ cx_philox_Out.md = 0 ∧ cx_philox_Out.T = T ∧ cx_philox_Out.E = E ∧ cx_philox_Out.cs = [(253, c_philox_Mix)] ∧ ∀ d, (cx_philox_Out.ob).contains d = false := ⟨rfl, rfl, rfl, rfl, rfl, fun _ => rfl⟩
theorem cok_philox_Out : COk Tryz.prog (cx_philox_Out) := cok_of rfl (.cons ok_philox_Mix (.nil)) (.cons (fun _ => fn3_quiet) (.nil)) (.nil)
theorem ok_philox_Out : Ok Tryz.prog 250 c_philox_Out := by
  refine ok_fn2 cok_philox_Out mixed Tryz.func250 rfl (by kernel_rfl) (by kernel_rfl) rfl ?_
  intro s k om hw _
  simp only [go_sem, Tryz.f250, kn1, kn2, kn3, kn4, kn5, kn6, kn7, kn8, kn9, kz1, kz2, kz3, kz4, kz5, kz6, kz7, kz8, kz9, kz0, reduceCtorEq, String.reduceEq, kn0, kq1, kq2, kq3, kq4, Int.toNat_natCast]
  repeat' (first | with_reducible refine And.intro ?_ ?_ | with_reducible intro _)
  all_goals first | omega | rfl | trivial
end Go.Proofs.YteomkgcepiecjaaGreat.I
/- half: Block, pair, Step, Jump, Word. -/
namespace Go.Proofs.YteomkgcepiecjaaGreat.I
open Go
open Nat renaming reduceEqDiff → kn1, reduceBEq → kn2, reducePow → kn3, reduceMod → kn4, reduceAdd → kn5, reduceSub → kn6, reduceMul → kn7, reduceDiv → kn8, reduceLeDiff → kn9, reduceLT → kn0, zero_lt_one → kq1, zero_add → kq2, zero_le → kq3, le_refl → kq4
open Int renaming reduceToNat → kz1, reduceAdd → kz2, reduceSub → kz3, reduceMul → kz4, reduceDiv → kz5, reduceMod → kz6, reduceLE → kz7, reduceLT → kz8, reduceNeg → kz9, reduceEq → kz0
set_option maxRecDepth 10000
set_option linter.unusedSimpArgs false
set_option linter.unusedVariables false
structure HS where
  c : Nat
  k : K2
  h : Bool
deriving DecidableEq
def vH (s : HS) : V := .agg [.n .u64 (s.c / 18446744073709551616), .n .u64 (s.c % 18446744073709551616), .n .u32 s.k.a, .n .u32 s.k.b, .b s.h]
@[go_sem] theorem vH_eq (s : HS) : vH s = .agg [.n .u64 (s.c / 18446744073709551616), .n .u64 (s.c % 18446744073709551616), .n .u32 s.k.a, .n .u32 s.k.b, .b s.h] := rfl
noncomputable def tH : Ty HS := Ty.by vH fun s t h => by
  obtain ⟨c, ⟨a, b⟩, x⟩ := s; obtain ⟨c', ⟨a', b'⟩, x'⟩ := t
  simp only [vH_eq, V.agg.injEq, List.cons.injEq, V.n.injEq, V.b.injEq, true_and, and_true] at h
  simp only [HS.mk.injEq, K2.mk.injEq]
  refine ⟨by omega, ⟨h.2.2.1, h.2.2.2.1⟩, h.2.2.2.2⟩
@[go_sem] theorem tH_enc (s : HS) : tH.enc s = .agg [.n .u64 (s.c / 18446744073709551616), .n .u64 (s.c % 18446744073709551616), .n .u32 s.k.a, .n .u32 s.k.b, .b s.h] := rfl
@[go_sem] theorem tH_dec (c a b : Nat) (h : Bool) : tH.dec (.agg [.n .u64 (c / 18446744073709551616), .n .u64 (c % 18446744073709551616), .n .u32 a, .n .u32 b, .b h]) = some ⟨c, ⟨a, b⟩, h⟩ := tH.h1 ⟨c, ⟨a, b⟩, h⟩
@[go_sem] theorem HS_eta (s : HS) : HS.mk s.c ⟨s.k.a, s.k.b⟩ s.h = s := rfl
def HS.wf (s : HS) : Prop := s.c < 340282366920938463463374607431768211456 ∧ s.k.a < 4294967296 ∧ s.k.b < 4294967296
def hblock (n : Nat) : X4 := ⟨n % 18446744073709551616 % 4294967296, (n % 18446744073709551616) >>> 32 % 4294967296, n / 18446744073709551616 % 4294967296, (n / 18446744073709551616) >>> 32 % 4294967296⟩
@[go_sem] noncomputable def c_half_Block : Cn := fn1 tW (fun _ => True) fun n => vY (hblock n)
noncomputable def cx_half_Block : Cx := { T := T, E := E, cs := [], sch := [], ob := [], qs := [] }
@[go_sem] theorem cx_half_Block_e : cx_half_Block.gs = none ∧ cx_half_Block.md = 0 ∧ cx_half_Block.T = T ∧ cx_half_Block.E = E ∧ cx_half_Block.cs = [] ∧ ∀ d, (cx_half_Block.ob).contains d = false := ⟨rfl, rfl, rfl, rfl, rfl, fun _ => rfl⟩
theorem cok_half_Block : COk Tryz.prog (cx_half_Block) := cok_of rfl (.nil) (.nil) (.nil)
theorem ok_half_Block : Ok Tryz.prog 251 c_half_Block := by
  refine ok_fn1 cok_half_Block mixed Tryz.func251 rfl (by kernel_rfl) (by kernel_rfl) rfl ?_
  intro n om hw _
  simp only [go_sem, Tryz.f251, kn1, kn2, kn3, kn4, kn5, kn6, kn7, kn8, kn9, kz1, kz2, kz3, kz4, kz5, kz6, kz7, kz8, kz9, kz0, reduceCtorEq, String.reduceEq, kn0, kq1, kq2, kq3, kq4, Int.toNat_natCast, hblock]
def hpair (a b : Nat) : Nat := a % 18446744073709551616 ||| (b % 18446744073709551616) <<< 32 % 18446744073709551616
@[go_sem] def c_half_pair : Cn := fn2 (tN .u32) (tN .u32) (fun _ _ => True) fun a b => .n .u64 (hpair a b)
noncomputable def cx_half_pair : Cx := { T := T, E := E, cs := [], sch := [], ob := [], qs := [] }
@[go_sem] theorem cx_half_pair_e : cx_half_pair.gs = none ∧ cx_half_pair.md = 0 ∧ cx_half_pair.T = T ∧ cx_half_pair.E = E ∧ cx_half_pair.cs = [] ∧ ∀ d, (cx_half_pair.ob).contains d = false := ⟨rfl, rfl, rfl, rfl, rfl, fun _ => rfl⟩
theorem cok_half_pair : COk Tryz.prog (cx_half_pair) := cok_of rfl (.nil) (.nil) (.nil)
theorem ok_half_pair : Ok Tryz.prog 252 c_half_pair := by
  refine ok_fn2 cok_half_pair mixed Tryz.func252 rfl (by kernel_rfl) (by kernel_rfl) rfl ?_
  intro a b om hw _
  simp only [go_sem, Tryz.f252, kn1, kn2, kn3, kn4, kn5, kn6, kn7, kn8, kn9, kz1, kz2, kz3, kz4, kz5, kz6, kz7, kz8, kz9, kz0, reduceCtorEq, String.reduceEq, kn0, kq1, kq2, kq3, kq4, Int.toNat_natCast, hpair]
def hstep (s : HS) : HS := ⟨if s.h = true then (s.c + 1) % 340282366920938463463374607431768211456 else s.c, s.k, !s.h⟩
@[go_sem] noncomputable def c_half_Step : Cn := fn1 tH (fun _ => True) fun s => vH (hstep s)
noncomputable def cx_half_Step : Cx := { T := T, E := E, cs := [(17, c_wide_Of), (35, c_wide_Add)], sch := [(2, false, .take 0 (.take 1 (.alt 2 (.alt 3 (.take 4 (.take 5 (.take 6 (.take 7 (.alt 8 (.done) .no))))) .no) .no)))], ob := [], qs := [17, 35] }
@[go_sem] theorem cx_half_Step_e : cx_half_Step.gs = none ∧ cx_half_Step.md = 0 ∧ cx_half_Step.T = T ∧ cx_half_Step.E = E ∧ cx_half_Step.cs = [(17, c_wide_Of), (35, c_wide_Add)] ∧ cx_half_Step.sch = [(2, false, .take 0 (.take 1 (.alt 2 (.alt 3 (.take 4 (.take 5 (.take 6 (.take 7 (.alt 8 (.done) .no))))) .no) .no)))] ∧ ∀ d, (cx_half_Step.ob).contains d = false := ⟨rfl, rfl, rfl, rfl, rfl, rfl, fun _ => rfl⟩
theorem cok_half_Step : COk Tryz.prog (cx_half_Step) := cok_of rfl (.cons ok_wide_Of (.cons ok_wide_Add (.nil))) (.cons (fun _ => fn1_quiet) (.cons (fun _ => fn2_quiet) (.nil))) (.nil)
theorem ok_half_Step : Ok Tryz.prog 248 c_half_Step := by
  refine ok_fn1 cok_half_Step mixed Tryz.func248 rfl (by kernel_rfl) (by kernel_rfl) rfl ?_
  intro s om hw _
  obtain ⟨c, k, h⟩ := s
  cases h
  · simp only [go_sem, Tryz.f248, kn1, kn2, kn3, kn4, kn5, kn6, kn7, kn8, kn9, kz1, kz2, kz3, kz4, kz5, kz6, kz7, kz8, kz9, kz0, reduceCtorEq, String.reduceEq, kn0, kq1, kq2, kq3, kq4, Int.toNat_natCast, hstep, tW_lit]
  · simp only [go_sem, Tryz.f248, kn1, kn2, kn3, kn4, kn5, kn6, kn7, kn8, kn9, kz1, kz2, kz3, kz4, kz5, kz6, kz7, kz8, kz9, kz0, reduceCtorEq, String.reduceEq, kn0, kq1, kq2, kq3, kq4, Int.toNat_natCast, hstep, tW_lit]
def hjump (s : HS) (n : Nat) : HS := ⟨((if n % 2 = 1 then hstep s else s).c + n >>> 1) % 340282366920938463463374607431768211456, s.k, if n % 2 = 1 then !s.h else s.h⟩
@[go_sem] noncomputable def c_half_Jump : Cn := fn2 tH tW (fun _ _ => True) fun s n => vH (hjump s n)
noncomputable def cx_half_Jump : Cx := { T := T, E := E, cs := [(35, c_wide_Add), (171, c_wide_Right), (211, c_wide_Bit), (248, c_half_Step)], sch := [(3, false, .take 0 (.take 1 (.take 2 (.alt 3 (.alt 4 (.take 5 (.take 6 (.take 7 (.take 8 (.alt 9 (.done) .no))))) .no) .no))))], ob := [], qs := [35, 171, 211, 248] }
@[go_sem] theorem cx_half_Jump_e : cx_half_Jump.gs = none ∧ cx_half_Jump.md = 0 ∧ cx_half_Jump.T = T ∧ cx_half_Jump.E = E ∧ cx_half_Jump.cs = [(35, c_wide_Add), (171, c_wide_Right), (211, c_wide_Bit), (248, c_half_Step)] ∧ cx_half_Jump.sch = [(3, false, .take 0 (.take 1 (.take 2 (.alt 3 (.alt 4 (.take 5 (.take 6 (.take 7 (.take 8 (.alt 9 (.done) .no))))) .no) .no))))] ∧ ∀ d, (cx_half_Jump.ob).contains d = false := ⟨rfl, rfl, rfl, rfl, rfl, rfl, fun _ => rfl⟩
theorem cok_half_Jump : COk Tryz.prog (cx_half_Jump) := cok_of rfl (.cons ok_wide_Add (.cons ok_wide_Right (.cons ok_wide_Bit (.cons ok_half_Step (.nil))))) (.cons (fun _ => fn2_quiet) (.cons (fun _ => fn2_quiet) (.cons (fun _ => fn2_quiet) (.cons (fun _ => fn1_quiet) (.nil))))) (.nil)
theorem ok_half_Jump : Ok Tryz.prog 247 c_half_Jump := by
  refine ok_fn2 cok_half_Jump mixed Tryz.func247 rfl (by kernel_rfl) (by kernel_rfl) rfl ?_
  intro s n om hw _
  simp only [go_sem, Tryz.f247, kn1, kn2, kn3, kn4, kn5, kn6, kn7, kn8, kn9, kz1, kz2, kz3, kz4, kz5, kz6, kz7, kz8, kz9, kz0, reduceCtorEq, String.reduceEq, kn0, kq1, kq2, kq3, kq4, Int.toNat_natCast, hjump, tb_0]
  refine fun _ => ⟨fun h _ _ _ => ?_, fun h _ _ => ?_⟩
  · have h1 : n % 2 = 1 := by omega
    rw [if_pos h1, if_pos h1]
    exact ⟨rfl, rfl, rfl, rfl, rfl⟩
  · have h1 : ¬ n % 2 = 1 := by omega
    rw [if_neg h1, if_neg h1]
    exact ⟨rfl, rfl, rfl⟩
end Go.Proofs.YteomkgcepiecjaaGreat.I
/- half.Word: a map of both halves. -/
namespace Go.Proofs.YteomkgcepiecjaaGreat.I
open Go
open Nat renaming reduceEqDiff → kn1, reduceBEq → kn2, reducePow → kn3, reduceMod → kn4, reduceAdd → kn5, reduceSub → kn6, reduceMul → kn7, reduceDiv → kn8, reduceLeDiff → kn9, reduceLT → kn0, zero_lt_one → kq1, zero_add → kq2, zero_le → kq3, le_refl → kq4
open Int renaming reduceToNat → kz1, reduceAdd → kz2, reduceSub → kz3, reduceMul → kz4, reduceDiv → kz5, reduceMod → kz6, reduceLE → kz7, reduceLT → kz8, reduceNeg → kz9, reduceEq → kz0
set_option maxRecDepth 10000
set_option linter.unusedSimpArgs false
set_option linter.unusedVariables false
def hout (s : HS) : X4 := phM (hblock s.c) s.k 10
def hword (s : HS) : Nat := if s.h = true then hpair (hout s).c (hout s).d else hpair (hout s).a (hout s).b
@[go_sem] noncomputable def c_half_Word : Cn := fn1 tH (fun _ => True) fun s => .n .u64 (hword s)
noncomputable def cx_half_Word : Cx := { T := T, E := E, cs := [(250, c_philox_Out), (251, c_half_Block), (252, c_half_pair)], sch := [(1, false, .take 0 (.take 1 (.take 3 (.take 4 (.alt 2 (.alt 5 (.alt 6 (.alt 7 (.done) .no) .no) (.alt 6 (.alt 5 (.alt 7 (.done) .no) .no) (.no))) (.alt 6 (.alt 2 (.alt 5 (.alt 7 (.done) .no) .no) .no) (.no))))))), (2, false, .take 1 (.take 2 (.take 3 (.take 4 (.take 7 (.take 8 (.take 9 (.take 10 (.alt 0 (.alt 5 (.alt 6 (.alt 11 (.alt 12 (.take 13 (.take 14 (.done))) .no) .no) (.alt 11 (.alt 6 (.alt 12 (.take 13 (.take 14 (.done))) .no) (.alt 12 (.alt 6 (.take 13 (.take 14 (.done))) .no) (.no))) (.no))) .no) (.alt 5 (.alt 0 (.alt 6 (.alt 11 (.alt 12 (.take 13 (.take 14 (.done))) .no) .no) (.alt 11 (.alt 6 (.alt 12 (.take 13 (.take 14 (.done))) .no) (.alt 12 (.alt 6 (.take 13 (.take 14 (.done))) .no) (.no))) (.no))) (.alt 11 (.alt 0 (.alt 6 (.alt 12 (.take 13 (.take 14 (.done))) .no) (.alt 12 (.alt 6 (.take 13 (.take 14 (.done))) .no) (.no))) .no) (.no))) (.no)))))))))))], ob := [], qs := [250, 251, 252] }
@[go_sem] theorem cx_half_Word_e : cx_half_Word.gs = none ∧ cx_half_Word.md = 0 ∧ cx_half_Word.T = T ∧ cx_half_Word.E = E ∧ cx_half_Word.cs = [(250, c_philox_Out), (251, c_half_Block), (252, c_half_pair)] ∧ cx_half_Word.sch = [(1, false, .take 0 (.take 1 (.take 3 (.take 4 (.alt 2 (.alt 5 (.alt 6 (.alt 7 (.done) .no) .no) (.alt 6 (.alt 5 (.alt 7 (.done) .no) .no) (.no))) (.alt 6 (.alt 2 (.alt 5 (.alt 7 (.done) .no) .no) .no) (.no))))))), (2, false, .take 1 (.take 2 (.take 3 (.take 4 (.take 7 (.take 8 (.take 9 (.take 10 (.alt 0 (.alt 5 (.alt 6 (.alt 11 (.alt 12 (.take 13 (.take 14 (.done))) .no) .no) (.alt 11 (.alt 6 (.alt 12 (.take 13 (.take 14 (.done))) .no) (.alt 12 (.alt 6 (.take 13 (.take 14 (.done))) .no) (.no))) (.no))) .no) (.alt 5 (.alt 0 (.alt 6 (.alt 11 (.alt 12 (.take 13 (.take 14 (.done))) .no) .no) (.alt 11 (.alt 6 (.alt 12 (.take 13 (.take 14 (.done))) .no) (.alt 12 (.alt 6 (.take 13 (.take 14 (.done))) .no) (.no))) (.no))) (.alt 11 (.alt 0 (.alt 6 (.alt 12 (.take 13 (.take 14 (.done))) .no) (.alt 12 (.alt 6 (.take 13 (.take 14 (.done))) .no) (.no))) .no) (.no))) (.no)))))))))))] ∧ ∀ d, (cx_half_Word.ob).contains d = false := ⟨rfl, rfl, rfl, rfl, rfl, rfl, fun _ => rfl⟩
theorem cok_half_Word : COk Tryz.prog (cx_half_Word) := cok_of rfl (.cons ok_philox_Out (.cons ok_half_Block (.cons ok_half_pair (.nil)))) (.cons (fun _ => fn2_quiet) (.cons (fun _ => fn1_quiet) (.cons (fun _ => fn2_quiet) (.nil)))) (.nil)
theorem ok_half_Word : Ok Tryz.prog 249 c_half_Word := by
  refine ok_fn1 cok_half_Word mixed Tryz.func249 rfl (by kernel_rfl) (by kernel_rfl) rfl ?_
  intro s om hw _
  obtain ⟨c, k, h⟩ := s
  cases h
  · simp only [go_sem, Tryz.f249, kn1, kn2, kn3, kn4, kn5, kn6, kn7, kn8, kn9, kz1, kz2, kz3, kz4, kz5, kz6, kz7, kz8, kz9, kz0, reduceCtorEq, String.reduceEq, kn0, kq1, kq2, kq3, kq4, Int.toNat_natCast, hword, hout]
    repeat' (first | with_reducible refine And.intro ?_ ?_ | with_reducible intro _)
    all_goals first | omega | rfl | trivial
  · simp only [go_sem, Tryz.f249, kn1, kn2, kn3, kn4, kn5, kn6, kn7, kn8, kn9, kz1, kz2, kz3, kz4, kz5, kz6, kz7, kz8, kz9, kz0, reduceCtorEq, String.reduceEq, kn0, kq1, kq2, kq3, kq4, Int.toNat_natCast, hword, hout]
    repeat' (first | with_reducible refine And.intro ?_ ?_ | with_reducible intro _)
    all_goals first | omega | rfl | trivial
end Go.Proofs.YteomkgcepiecjaaGreat.I
