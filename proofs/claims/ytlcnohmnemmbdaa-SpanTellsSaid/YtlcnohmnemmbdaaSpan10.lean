/- Twice: spans that stand there twice or more. -/
import Derived.Test.YtlcnohmnemmbdaaRow4
namespace Go.Proofs.Ytlcnohmnemmbdaa.I
open Go
open Nat renaming reduceEqDiff → kn1, reduceBEq → kn2, reducePow → kn3, reduceMod → kn4, reduceAdd → kn5, reduceSub → kn6, reduceMul → kn7, reduceDiv → kn8, reduceLeDiff → kn9, reduceLT → kn0, zero_lt_one → kq1, zero_add → kq2, zero_le → kq3, le_refl → kq4
open Int renaming reduceToNat → kz1, reduceAdd → kz2, reduceSub → kz3, reduceMul → kz4, reduceDiv → kz5, reduceMod → kz6, reduceLE → kz7, reduceLT → kz8, reduceNeg → kz9, reduceEq → kz0
set_option maxRecDepth 10000
set_option linter.unusedSimpArgs false
set_option linter.unusedVariables false

/-- Counts by keys, as a map holds them: the keys once each, in the order they came. -/
def look (k : D2) : List (D2 × Int) → Option Int
  | [] => none
  | (c, n) :: l => if c = k then some n else look k l
def lookD (k : D2) (l : List (D2 × Int)) : Int := (look k l).getD 0
def putM2 (k : D2) (n : Int) : List (D2 × Int) → List (D2 × Int)
  | [] => [(k, n)]
  | (c, m) :: l => if c = k then (c, n) :: l else (c, m) :: putM2 k n l
theorem look_put (k j : D2) (n : Int) : ∀ l, look j (putM2 k n l) = if j = k then some n else look j l
  | [] => by
    show (if k = j then some n else none) = if j = k then some n else none
    by_cases h : j = k
    · rw [if_pos h, if_pos h.symm]
    · rw [if_neg h, if_neg (Ne.symm h)]
  | (c, m) :: l => by
    unfold putM2
    by_cases h : c = k
    · subst h
      rw [if_pos rfl]
      simp only [look]
      by_cases h2 : j = c
      · subst h2; simp
      · rw [if_neg (Ne.symm h2), if_neg h2, if_neg (Ne.symm h2)]
    · rw [if_neg h]
      simp only [look, look_put k j n l]
      by_cases h2 : c = j
      · subst h2; simp [h]
      · simp [h2]
def ksM (l : List (D2 × Int)) : List V := els v2 (l.map (·.1))
def vsM (l : List (D2 × Int)) : List V := els V.z (l.map (·.2))
theorem v2_eq_iff (c k : D2) : (v2 c = v2 k) ↔ c = k := by
  constructor
  · intro h
    have e := t2.h1 c
    rw [show t2.enc c = t2.enc k from h, t2.h1] at e
    injection e with e; exact e.symm
  · rintro rfl; rfl
theorem atKey_look (k : D2) : ∀ (l : List (D2 × Int)) (K : Option V → Prop), K ((look k l).map V.z) → @atKey (v2 k) (ksM l) (vsM l) ⟨K⟩
  | [], K, h => h
  | (c, n) :: l, K, h => by
    refine ⟨fun e => ?_, fun e => ?_⟩
    · rw [v2_eq_iff] at e; simp only [look, if_pos e] at h; exact h
    · rw [v2_eq_iff] at e; simp only [look, if_neg e] at h; exact atKey_look k l K h
theorem setKey_put (k : D2) (n : Int) : ∀ (l : List (D2 × Int)) (K : List V → List V → Prop), K (ksM (putM2 k n l)) (vsM (putM2 k n l)) → @setKey (v2 k) (.z n) (ksM l) (vsM l) ⟨K⟩
  | [], K, h => h
  | (c, m) :: l, K, h => by
    refine ⟨fun e => ?_, fun e => ?_⟩
    · rw [v2_eq_iff] at e; simp only [putM2, if_pos e] at h; exact h
    · rw [v2_eq_iff] at e; simp only [putM2, if_neg e] at h; exact setKey_put k n l _ h
/-- The place of a key. -/
def placeM (k : D2) : List (D2 × Int) → Nat
  | [] => 0
  | (c, n) :: l => if c = k then 0 else placeM k l + 1
theorem ixKey_place (k : D2) : ∀ (l : List (D2 × Int)) (i : Nat) (K : Option (Nat × V) → Prop), (∀ n, look k l = some n → K (some (i + placeM k l, .z n))) → (look k l = none → K none) → @ixKey (v2 k) (ksM l) (vsM l) i ⟨K⟩
  | [], i, K, h, h' => h' rfl
  | (c, n) :: l, i, K, h, h' => by
    refine ⟨fun e => ?_, fun e => ?_⟩
    · rw [v2_eq_iff] at e
      have := h n (by show (if c = k then some n else _) = some n; rw [if_pos e])
      simp only [placeM, if_pos e, Nat.add_zero] at this
      exact this
    · rw [v2_eq_iff] at e
      refine ixKey_place k l (i + 1) K (fun m hm => ?_) fun hm => h' (by simp [look, e, hm])
      have := h m (by simp [look, e, hm])
      simpa [placeM, e, Nat.add_assoc, Nat.add_comm 1] using this
theorem place_set (k : D2) (n : Int) : ∀ l, look k l ≠ none → placeM k l < l.length ∧ (ksM (putM2 k n l) = ksM l ∧ vsM (putM2 k n l) = (vsM l).set (placeM k l) (.z n))
  | [], h => absurd rfl h
  | (c, m) :: l, h => by
    by_cases e : c = k
    · simp [putM2, placeM, e, ksM, vsM, els]
    · have := place_set k n l (by simpa [look, e] using h)
      simp only [putM2, placeM, if_neg e, ksM, vsM, els, List.map_cons, List.length_cons, List.set_cons_succ] at this ⊢
      exact ⟨by omega, by rw [this.2.1], by rw [this.2.2]⟩
theorem place_new (k : D2) (n : Int) : ∀ l, look k l = none → putM2 k n l = l ++ [(k, n)]
  | [], _ => rfl
  | (c, m) :: l, h => by
    by_cases e : c = k
    · simp [look, e] at h
    · rw [putM2, if_neg e, place_new k n l (by simpa [look, e] using h)]; rfl
theorem ksM_len (l : List (D2 × Int)) : (ksM l).length = l.length := by simp [ksM, els]
theorem vsM_len (l : List (D2 × Int)) : (vsM l).length = l.length := by simp [vsM, els]
theorem putM_len (k : D2) (n : Int) (l : List (D2 × Int)) : (putM2 k n l).length ≤ l.length + 1 := by
  induction l with
  | nil => simp [putM2]
  | cons x l ih => obtain ⟨c, m⟩ := x; unfold putM2; split <;> simp <;> omega
def countM : List D2 → List (D2 × Int) → List (D2 × Int)
  | [], m => m
  | s :: l, m => countM l (putM2 s (lookD s m + 1) m)
def pickM : List D2 → List (D2 × Int) → List D2 × List (D2 × Int)
  | [], m => ([], m)
  | s :: l, m => if 1 < lookD s m then (s :: (pickM l (putM2 s 0 m)).1, (pickM l (putM2 s 0 m)).2) else pickM l m
def twice (l : List D2) : List D2 := (pickM l (countM l [])).1
theorem ks_all (fs : List (Nat × TypeId)) (m : List (D2 × Int)) : (ksM m).all (keyAt (some [.i .u64, .i .u64, .i .u64, .i .u64]) (.struct fs)) = true := by
  rw [List.all_eq_true]
  intro x hx
  obtain ⟨y, _, rfl⟩ := List.mem_map.1 hx
  rfl
theorem ks_within (hs : List Nat) (m : List (D2 × Int)) : withins hs (ksM m) = true := e2_within hs _
theorem vs_within (hs : List Nat) (m : List (D2 × Int)) : withins hs (vsM m) = true := els_within V.z hs _
@[go_sem] noncomputable def c_span_Twice : Cn := fn1 (tL t2) (fun l => l.length ≤ 1000) fun l => .sl (els v2 (twice l))
noncomputable def cx_span_Twice : Cx := { T := T, E := E, cs := [], sch := [(5, false, .take 0 (.take 1 (.alt 2 (.take 3 (.alt 4 (.take 5 (.alt 6 (.done) .no)) .no)) (.alt 4 (.take 5 (.alt 2 (.take 3 (.alt 6 (.done) .no)) .no)) (.no)))))], ob := [], qs := [] }
@[go_sem] theorem cx_span_Twice_e : cx_span_Twice.gs = none ∧ cx_span_Twice.md = 0 ∧ cx_span_Twice.T = T ∧ cx_span_Twice.E = E ∧ cx_span_Twice.cs = [] ∧ cx_span_Twice.sch = [(5, false, .take 0 (.take 1 (.alt 2 (.take 3 (.alt 4 (.take 5 (.alt 6 (.done) .no)) .no)) (.alt 4 (.take 5 (.alt 2 (.take 3 (.alt 6 (.done) .no)) .no)) (.no)))))] ∧ ∀ d, (cx_span_Twice.ob).contains d = false := ⟨rfl, rfl, rfl, rfl, rfl, rfl, fun _ => rfl⟩
theorem cok_span_Twice : COk Try.prog (cx_span_Twice) := cok_of rfl (.nil) (.nil) (.nil)
set_option maxHeartbeats 2000000 in
theorem ok_span_Twice : Ok Try.prog 25 c_span_Twice := by
  refine ok_fn1 cok_span_Twice mixed Try.func25 rfl (by kernel_rfl) (by kernel_rfl) rfl ?_
  intro l om hw hl
  simp only [go_sem, Try.f25, kn1, kn2, kn3, kn4, kn5, kn6, kn7, kn8, kn9, kz1, kz2, kz3, kz4, kz5, kz6, kz7, kz8, kz9, kz0, reduceCtorEq, String.reduceEq, kn0, kq1, kq2, kq3, kq4, Int.toNat_natCast]
  have hb := wf_e2 hw
  refine ⟨Nat × List (D2 × Int), fun q => ⟨[.sl (els v2 l), .u, .nils, .mp 9, .u, .u, .u, .u, .u, .u, .sl (els v2 l), .z l.length, .z q.1, .u, .u, .u, .u, .u, .u, .u, .u, .u, .u, .u, .u, .u, .u, .u, .u, .u, .u, .u, .u, .u, .u, .u, .u, .u, .u, .u, .u], [(9, ⟨0, true, [.mc (ksM q.2) (vsM q.2)], true⟩)], om⟩,
    fun q => q.1 ≤ l.length ∧ countM (l.drop q.1) q.2 = countM l [] ∧ q.2.length ≤ q.1 ∧ ∀ j, 0 ≤ lookD j q.2 ∧ lookD j q.2 ≤ q.1, fun q => l.length - q.1, ⟨(0, []), ⟨Nat.zero_le _, rfl, Nat.le_refl _, fun j => ⟨Int.le_refl _, Int.le_refl _⟩⟩, ?_⟩, ?_⟩
  · simp only [go_sem, kn1, kn2, kn3, kn4, kn5, kn6, kn7, kn8, kn9, kz1, kz2, kz3, kz4, kz5, kz6, kz7, kz8, kz9, kz0, reduceCtorEq, String.reduceEq, kn0, kq1, kq2, kq3, kq4, Int.toNat_natCast, ks_within, vs_within, ksM, vsM]
  · rintro ⟨k, m⟩ ⟨g1, g2, g3, g4⟩
    simp only at g1 g2 g3 g4
    by_cases c : k < l.length
    · have c' : ((k : Int) < (l.length : Int)) = True := eq_true (by omega)
      simp only [go_sem, kn1, kn2, kn3, kn4, kn5, kn6, kn7, kn8, kn9, kz1, kz2, kz3, kz4, kz5, kz6, kz7, kz8, kz9, kz0, reduceCtorEq, String.reduceEq, kn0, kq1, kq2, kq3, kq4, Int.toNat_natCast, c', e2_get, ks_all, ksM_len, vsM_len]
      obtain ⟨S, hS⟩ : ∃ S, l.getD k z2 = S := ⟨_, rfl⟩
      rw [hS]
      have st : countM (l.drop (k + 1)) (putM2 S (lookD S m + 1) m) = countM l [] := by
        rw [← g2, List.drop_eq_getElem_cons c, show l[k] = S by rw [← hS, List.getD_eq_getElem?_getD, List.getElem?_eq_getElem c]; rfl]; rfl
      have g5 := g4 S
      have fin : ∀ (m' : List (D2 × Int)), m' = putM2 S (lookD S m + 1) m → (k + 1 ≤ l.length ∧ countM (l.drop (k + 1)) m' = countM l [] ∧ m'.length ≤ k + 1 ∧ ∀ j, 0 ≤ lookD j m' ∧ lookD j m' ≤ ((k + 1 : Nat) : Int)) := fun m' e => by
        subst e
        refine ⟨by omega, st, Nat.le_trans (putM_len _ _ _) (by omega), fun j => ?_⟩
        have := g4 j
        unfold lookD at this g5 ⊢
        rw [look_put]
        split
        · simp only [Option.getD_some]; omega
        · omega
      cases hL : look S m with
      | none =>
        have e0 : lookD S m = 0 := by unfold lookD; rw [hL]; rfl
        have pn := place_new S (lookD S m + 1) m hL
        rw [e0] at pn fin
        have kn : ksM m ++ [V.agg [.n .u64 (S.a / 18446744073709551616), .n .u64 (S.a % 18446744073709551616), .n .u64 (S.b / 18446744073709551616), .n .u64 (S.b % 18446744073709551616)]] = ksM (m ++ [(S, 0)]) := by simp only [ksM, List.map_append]; rw [← els_append]; rfl
        have vn : vsM m ++ [V.z 0] = vsM (m ++ [(S, 0)]) := by simp only [vsM, List.map_append]; rw [← els_append]; rfl
        have sv : (vsM (m ++ [(S, 0)])).set m.length (.z 1) = vsM (m ++ [(S, 1)]) := by simp [vsM, els]
        have sk : ksM (m ++ [(S, 0)]) = ksM (m ++ [(S, 1)]) := by simp [ksM]
        have ln : ∀ m : List (D2 × Int), look S m = none → look S (m ++ [(S, 0)]) = some 0 := fun m => by
          induction m with
          | nil => intro _; simp [look]
          | cons x m ih =>
            obtain ⟨c, n⟩ := x
            intro h
            by_cases e : c = S
            · simp [look, e] at h
            · simp only [look, if_neg e] at h; simp only [List.cons_append, look, if_neg e]; exact ih h
        refine ⟨by omega, atKey_look S m _ ?_, by omega, ixKey_place S m 0 _ (fun n hn => ?_) fun _ => ?_⟩
        · rw [hL]
          simp only [go_sem, kn1, kn2, kn3, kn4, kn5, kn6, kn7, kn8, kn9, kz1, kz2, kz3, kz4, kz5, kz6, kz7, kz8, kz9, kz0, reduceCtorEq, String.reduceEq, kn0, kq1, kq2, kq3, kq4, Int.toNat_natCast, hS, ks_all, ksM_len, vsM_len]
          refine ⟨by omega, ixKey_place S m 0 _ (fun n hn => ?_) fun _ => ?_⟩
          · rw [hL] at hn; cases hn
          · simp only [go_sem, kn1, kn2, kn3, kn4, kn5, kn6, kn7, kn8, kn9, kz1, kz2, kz3, kz4, kz5, kz6, kz7, kz8, kz9, kz0, reduceCtorEq, String.reduceEq, kn0, kq1, kq2, kq3, kq4, Int.toNat_natCast, hS, ks_all, ksM_len, vsM_len, kn, vn, sv, List.length_append]
            refine ⟨by omega, by omega, (k + 1, m ++ [(S, 1)]), fin _ pn.symm, ⟨by show _ = ((k + 1 : Nat) : Int); omega, by rw [sk], by simp only [ks_within, vs_within]; rfl⟩, by show l.length - (k + 1) < _; omega⟩
        · rw [hL] at hn; cases hn
        · simp only [go_sem, kn1, kn2, kn3, kn4, kn5, kn6, kn7, kn8, kn9, kz1, kz2, kz3, kz4, kz5, kz6, kz7, kz8, kz9, kz0, reduceCtorEq, String.reduceEq, kn0, kq1, kq2, kq3, kq4, Int.toNat_natCast, hS, ks_all, ksM_len, vsM_len, kn, vn, List.length_append]
          refine atKey_look S _ _ ?_
          rw [ln m hL]
          simp only [go_sem, kn1, kn2, kn3, kn4, kn5, kn6, kn7, kn8, kn9, kz1, kz2, kz3, kz4, kz5, kz6, kz7, kz8, kz9, kz0, reduceCtorEq, String.reduceEq, kn0, kq1, kq2, kq3, kq4, Int.toNat_natCast, hS, ks_all, ksM_len, vsM_len, sv, List.length_append]
          refine ⟨by omega, by omega, (k + 1, m ++ [(S, 1)]), fin _ pn.symm, ⟨by show _ = ((k + 1 : Nat) : Int); omega, by rw [sk], by simp only [ks_within, vs_within]; rfl⟩, by show l.length - (k + 1) < _; omega⟩
      | some n =>
        have e0 : lookD S m = n := by unfold lookD; rw [hL]; rfl
        rw [e0] at fin g5
        obtain ⟨p1, p2, p3⟩ := place_set S (n + 1) m (by rw [hL]; simp)
        refine ⟨by omega, atKey_look S m _ ?_, by omega, ixKey_place S m 0 _ (fun n' hn => ?_) fun hn => ?_⟩
        · rw [hL]
          simp only [go_sem, kn1, kn2, kn3, kn4, kn5, kn6, kn7, kn8, kn9, kz1, kz2, kz3, kz4, kz5, kz6, kz7, kz8, kz9, kz0, reduceCtorEq, String.reduceEq, kn0, kq1, kq2, kq3, kq4, Int.toNat_natCast, hS, ks_all, ksM_len, vsM_len]
          refine ⟨by omega, by omega, ixKey_place S m 0 _ (fun n' hn => ?_) fun hn => ?_⟩
          · simp only [go_sem, kn1, kn2, kn3, kn4, kn5, kn6, kn7, kn8, kn9, kz1, kz2, kz3, kz4, kz5, kz6, kz7, kz8, kz9, kz0, reduceCtorEq, String.reduceEq, kn0, kq1, kq2, kq3, kq4, Int.toNat_natCast, hS, ks_all, ksM_len, vsM_len, ← p3]
            refine ⟨by omega, by omega, (k + 1, putM2 S (n + 1) m), fin _ rfl, ⟨by show _ = ((k + 1 : Nat) : Int); omega, by rw [p2], by simp only [ks_within, vs_within]; rfl⟩, by show l.length - (k + 1) < _; omega⟩
          · rw [hL] at hn; cases hn
        · simp only [go_sem, kn1, kn2, kn3, kn4, kn5, kn6, kn7, kn8, kn9, kz1, kz2, kz3, kz4, kz5, kz6, kz7, kz8, kz9, kz0, reduceCtorEq, String.reduceEq, kn0, kq1, kq2, kq3, kq4, Int.toNat_natCast, hS, ks_all, ksM_len, vsM_len]
          refine atKey_look S _ _ ?_
          rw [hL]
          simp only [go_sem, kn1, kn2, kn3, kn4, kn5, kn6, kn7, kn8, kn9, kz1, kz2, kz3, kz4, kz5, kz6, kz7, kz8, kz9, kz0, reduceCtorEq, String.reduceEq, kn0, kq1, kq2, kq3, kq4, Int.toNat_natCast, hS, ks_all, ksM_len, vsM_len, ← p3]
          refine ⟨by omega, by omega, by omega, (k + 1, putM2 S (n + 1) m), fin _ rfl, ⟨by show _ = ((k + 1 : Nat) : Int); omega, by rw [p2], by simp only [ks_within, vs_within]; rfl⟩, by show l.length - (k + 1) < _; omega⟩
        · rw [hL] at hn; cases hn
    · have c' : ((k : Int) < (l.length : Int)) = False := eq_false (by omega)
      simp only [go_sem, kn1, kn2, kn3, kn4, kn5, kn6, kn7, kn8, kn9, kz1, kz2, kz3, kz4, kz5, kz6, kz7, kz8, kz9, kz0, reduceCtorEq, String.reduceEq, kn0, kq1, kq2, kq3, kq4, Int.toNat_natCast, c']
      have kl : k = l.length := by omega
      subst kl
      rw [List.drop_length] at g2
      have tw : (pickM l m).1 = twice l := by unfold twice; rw [← g2]; rfl
      refine ⟨Nat × List (D2 × Int) × List D2, fun q => ⟨[.sl (els v2 l), .u, .nils, .mp 9, .u, .u, .row 36 q.2.2.length q.2.2.length, .u, .u, .u, .u, .u, .u, .u, .u, .u, .u, .u, .u, .u, .u, .u, .u, .sl (els v2 l), .z l.length, .z q.1, .u, .u, .u, .u, .u, .u, .u, .u, .u, .u, .u, .u, .u, .u, .u], [(36, ⟨4, true, els v2 q.2.2, false⟩), (9, ⟨0, true, [.mc (ksM q.2.1) (vsM q.2.1)], true⟩)], om⟩,
        fun q => q.1 ≤ l.length ∧ q.2.2 ++ (pickM (l.drop q.1) q.2.1).1 = twice l ∧ q.2.1.length ≤ 1000 + q.1 ∧ q.2.2.length ≤ q.1, fun q => l.length - q.1, ⟨(0, m, []), ⟨Nat.zero_le _, by rw [← tw]; rfl, by show m.length ≤ 1000 + 0; omega, Nat.le_refl _⟩, ?_⟩, ?_⟩
      · simp only [go_sem, kn1, kn2, kn3, kn4, kn5, kn6, kn7, kn8, kn9, kz1, kz2, kz3, kz4, kz5, kz6, kz7, kz8, kz9, kz0, reduceCtorEq, String.reduceEq, kn0, kq1, kq2, kq3, kq4, Int.toNat_natCast, ks_within, vs_within]
      · rintro ⟨k, m, acc⟩ ⟨h1, h2, h3, h4⟩
        simp only at h1 h2 h3 h4
        by_cases c : k < l.length
        · have c' : ((k : Int) < (l.length : Int)) = True := eq_true (by omega)
          obtain ⟨S, hS⟩ : ∃ S, l.getD k z2 = S := ⟨_, rfl⟩
          have dr : l.drop k = S :: l.drop (k + 1) := by
            rw [List.drop_eq_getElem_cons c, show l[k] = S by rw [← hS, List.getD_eq_getElem?_getD, List.getElem?_eq_getElem c]; rfl]
          rw [dr] at h2
          simp only [go_sem, kn1, kn2, kn3, kn4, kn5, kn6, kn7, kn8, kn9, kz1, kz2, kz3, kz4, kz5, kz6, kz7, kz8, kz9, kz0, reduceCtorEq, String.reduceEq, kn0, kq1, kq2, kq3, kq4, Int.toNat_natCast, c', e2_get, hS, ks_all, ksM_len, vsM_len]
          refine ⟨by omega, atKey_look S m _ ?_⟩
          cases hL : look S m with
          | none =>
            have e0 : lookD S m = 0 := by unfold lookD; rw [hL]; rfl
            rw [pickM, e0, if_neg (by omega)] at h2
            simp only [go_sem, kn1, kn2, kn3, kn4, kn5, kn6, kn7, kn8, kn9, kz1, kz2, kz3, kz4, kz5, kz6, kz7, kz8, kz9, kz0, reduceCtorEq, String.reduceEq, kn0, kq1, kq2, kq3, kq4, Int.toNat_natCast, hS]
            exact ⟨by omega, (k + 1, m, acc), ⟨by show k + 1 ≤ _; omega, h2, by show m.length ≤ 1000 + (k + 1); omega, by show acc.length ≤ k + 1; omega⟩, ⟨⟨rfl, by show _ = ((k + 1 : Nat) : Int); omega⟩, by simp only [ks_within, vs_within, Bool.and_self, and_self]⟩, by show l.length - (k + 1) < _; omega⟩
          | some n =>
            have e0 : lookD S m = n := by unfold lookD; rw [hL]; rfl
            by_cases c2 : 1 < n
            · have c2' : (1 < n) = True := eq_true c2
              rw [pickM, e0, if_pos c2] at h2
              have pl := putM_len S 0 m
              have ap : els v2 acc ++ [V.agg [.n .u64 (S.a / 18446744073709551616), .n .u64 (S.a % 18446744073709551616), .n .u64 (S.b / 18446744073709551616), .n .u64 (S.b % 18446744073709551616)]] = els v2 (acc ++ [S]) := by rw [← els_append]; rfl
              simp only [go_sem, kn1, kn2, kn3, kn4, kn5, kn6, kn7, kn8, kn9, kz1, kz2, kz3, kz4, kz5, kz6, kz7, kz8, kz9, kz0, reduceCtorEq, String.reduceEq, kn0, kq1, kq2, kq3, kq4, Int.toNat_natCast, hS, c2', ks_all, ksM_len, vsM_len, ap]
              refine ⟨by omega, setKey_put S 0 m _ ?_⟩
              simp only [go_sem, kn1, kn2, kn3, kn4, kn5, kn6, kn7, kn8, kn9, kz1, kz2, kz3, kz4, kz5, kz6, kz7, kz8, kz9, kz0, reduceCtorEq, String.reduceEq, kn0, kq1, kq2, kq3, kq4, Int.toNat_natCast, hS, ap]
              refine ⟨by omega, (k + 1, putM2 S 0 m, acc ++ [S]), ⟨by show k + 1 ≤ _; omega, by rw [List.append_assoc]; exact h2, by show (putM2 S 0 m).length ≤ 1000 + (k + 1); omega, by show (acc ++ [S]).length ≤ k + 1; simp; omega⟩, ?_, by show l.length - (k + 1) < _; omega⟩
              exact ⟨⟨by simp, by show _ = ((k + 1 : Nat) : Int); omega⟩, ⟨rfl, rfl⟩, by simp only [ks_within, vs_within, Bool.and_self]⟩
            · have c2' : (1 < n) = False := eq_false c2
              rw [pickM, e0, if_neg c2] at h2
              simp only [go_sem, kn1, kn2, kn3, kn4, kn5, kn6, kn7, kn8, kn9, kz1, kz2, kz3, kz4, kz5, kz6, kz7, kz8, kz9, kz0, reduceCtorEq, String.reduceEq, kn0, kq1, kq2, kq3, kq4, Int.toNat_natCast, hS, c2']
              exact ⟨by omega, (k + 1, m, acc), ⟨by show k + 1 ≤ _; omega, h2, by show m.length ≤ 1000 + (k + 1); omega, by show acc.length ≤ k + 1; omega⟩, ⟨⟨rfl, by show _ = ((k + 1 : Nat) : Int); omega⟩, by simp only [ks_within, vs_within, Bool.and_self, and_self]⟩, by show l.length - (k + 1) < _; omega⟩
        · have c' : ((k : Int) < (l.length : Int)) = False := eq_false (by omega)
          simp only [go_sem, kn1, kn2, kn3, kn4, kn5, kn6, kn7, kn8, kn9, kz1, kz2, kz3, kz4, kz5, kz6, kz7, kz8, kz9, kz0, reduceCtorEq, String.reduceEq, kn0, kq1, kq2, kq3, kq4, Int.toNat_natCast, c']
          have kl : k = l.length := by omega
          subst kl
          rw [List.drop_length, show (pickM [] m).1 = [] from rfl, List.append_nil] at h2
          exact h2
end Go.Proofs.Ytlcnohmnemmbdaa.I
