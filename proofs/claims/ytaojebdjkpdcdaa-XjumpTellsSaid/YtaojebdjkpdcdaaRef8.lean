/- The references 08: At, One, Of, Twice, Jump, Powers. -/
import Derived.Test.YtaojebdjkpdcdaaXact
import Derived.Test.YtaojebdjkpdcdaaRef2
namespace Go.Proofs.Ytaojebdjkpdcdaa.I
open Go
set_option maxRecDepth 10000
set_option linter.unusedSimpArgs false
set_option linter.unusedVariables false

/-! ### single bits -/
def wo (s : X4) : Nat → Nat
  | 0 => s.a
  | 1 => s.b
  | 2 => s.c
  | _ => s.d
def unit (i : Nat) : X4 := ⟨if i / 64 = 0 then 2 ^ (i % 64) else 0, if i / 64 = 1 then 2 ^ (i % 64) else 0, if i / 64 = 2 then 2 ^ (i % 64) else 0, if i / 64 = 3 then 2 ^ (i % 64) else 0⟩
theorem two64 (i : Nat) : 2 ^ (i % 64) < 18446744073709551616 := Nat.pow_lt_pow_right (a := 2) (n := 64) (by omega) (Nat.mod_lt _ (by omega))
theorem unit_wf (i : Nat) : (unit i).wf := by
  have := two64 i
  refine ⟨?_, ?_, ?_, ?_⟩ <;> (show (if _ then _ else _) < _) <;> split <;> omega
theorem wo_unit (i w : Nat) (hw : w < 4) : wo (unit i) w = if i / 64 = w then 2 ^ (i % 64) else 0 := by
  have : w = 0 ∨ w = 1 ∨ w = 2 ∨ w = 3 := by omega
  rcases this with rfl | rfl | rfl | rfl <;> rfl
theorem wo_xadd (s t : X4) (w : Nat) : wo (xadd s t) w = wo s w ^^^ wo t w := by
  match w with
  | 0 | 1 | 2 | _ + 3 => rfl
theorem wo_ext {s t : X4} (h : ∀ w, w < 4 → wo s w = wo t w) : s = t := x4_ext (h 0 (by omega)) (h 1 (by omega)) (h 2 (by omega)) (h 3 (by omega))
theorem wo_lt {s : X4} (h : s.wf) (w : Nat) : wo s w < 18446744073709551616 := by
  match w with
  | 0 => exact h.1
  | 1 => exact h.2.1
  | 2 => exact h.2.2.1
  | _ + 3 => exact h.2.2.2
/-- A state's lowest bits. -/
def lowS (t : X4) : Nat → X4
  | 0 => x0
  | i + 1 => if (wo t (i / 64)).testBit (i % 64) = true then xadd (lowS t i) (unit i) else lowS t i
theorem lowS_wf (t : X4) : ∀ i, (lowS t i).wf
  | 0 => x0_wf
  | i + 1 => by
    rw [lowS]; split
    · exact xadd_wf (lowS_wf t i) (unit_wf i)
    · exact lowS_wf t i
theorem lowS_bit (t : X4) : ∀ (i w b : Nat), w < 4 → b < 64 → (wo (lowS t i) w).testBit b = (decide (64 * w + b < i) && (wo t w).testBit b)
  | 0, w, b, hw, hb => by
    have : w = 0 ∨ w = 1 ∨ w = 2 ∨ w = 3 := by omega
    rcases this with rfl | rfl | rfl | rfl <;> simp [lowS, wo, x0]
  | i + 1, w, b, hw, hb => by
    have ih := lowS_bit t i w b hw hb
    rw [lowS]
    by_cases e : 64 * w + b = i
    · have e1 : i / 64 = w := by omega
      have e2 : i % 64 = b := by omega
      have d1 : ¬ (64 * w + b < i) := by omega
      have d2 : 64 * w + b < i + 1 := by omega
      rw [e1, e2]
      rw [decide_eq_false d1, Bool.false_and] at ih
      rw [decide_eq_true d2, Bool.true_and]
      split
      · rename_i g
        rw [wo_xadd, Nat.testBit_xor, ih, wo_unit _ _ hw, if_pos e1, e2, Nat.testBit_two_pow_self, g]; rfl
      · rename_i g; rw [ih]; simpa using g
    · have d1 : decide (64 * w + b < i + 1) = decide (64 * w + b < i) := decide_eq_decide.2 (by omega)
      rw [d1, ← ih]
      split
      · rw [wo_xadd, Nat.testBit_xor, wo_unit _ _ hw]
        split
        · rename_i e1
          rw [Nat.testBit_two_pow]
          rw [decide_eq_false (show ¬ i % 64 = b by omega)]; simp
        · simp
      · rfl
theorem lowS_all {t : X4} (h : t.wf) : lowS t 256 = t := by
  refine wo_ext fun w hw => ?_
  apply Nat.eq_of_testBit_eq
  intro b
  by_cases hb : b < 64
  · rw [lowS_bit t 256 w b hw hb, decide_eq_true (show 64 * w + b < 256 by omega), Bool.true_and]
  · have k : ∀ x, x < 18446744073709551616 → x.testBit b = false := fun x hx => Nat.testBit_lt_two_pow (Nat.lt_of_lt_of_le hx (Nat.pow_le_pow_right (n := 2) (i := 64) (by omega) (by omega)))
    rw [k _ (wo_lt (lowS_wf t 256) w), k _ (wo_lt h w)]

/-! ### matrices -/
/-- What becomes of each bit in so many steps. -/
def mats (n : Nat) : List X4 := (List.range 256).map fun i => xst (unit i) n
/-- The first k of them, the others 0. -/
def matsK (n k : Nat) : List X4 := (List.range 256).map fun i => if i < k then xst (unit i) n else x0
def mcells (l : List X4) : List V := flat (l.map vX)
theorem mats_len (n : Nat) : (mats n).length = 256 := by simp [mats]
theorem matsK_len (n k : Nat) : (matsK n k).length = 256 := by simp [matsK]
theorem matsK_all (n : Nat) : matsK n 256 = mats n := by
  unfold matsK mats
  refine List.map_congr_left fun i hi => ?_
  rw [List.mem_range] at hi
  rw [if_pos hi]
theorem mats_get (n : Nat) {k : Nat} (h : k < 256) : (mats n)[k]'(by rw [mats_len]; exact h) = xst (unit k) n := by simp [mats]
theorem vX_cells (l : List X4) : ∀ x ∈ l.map vX, x.cells.length = 4 := fun x hx => by
  obtain ⟨s, _, rfl⟩ := List.mem_map.1 hx; rfl
theorem mcells_len (l : List X4) : (mcells l).length = l.length * 4 := by
  unfold mcells; rw [flat_uniform (vX_cells l), List.length_map]
theorem mcells_get (l : List X4) (k : Nat) (hk : k < l.length) : ((mcells l).drop (k * 4)).take 4 = cX l[k] := by
  unfold mcells
  rw [flat_elem (vX_cells l) k (by rw [List.length_map]; exact hk), List.getElem_map]; rfl
theorem mats_at (n : Nat) {k : Nat} (hk : k < 256) : ((mcells (mats n)).drop (k * 4)).take 4 = cX (xst (unit k) n) := by
  rw [mcells_get _ _ (by rw [mats_len]; exact hk), mats_get n hk]
theorem mcells_has (l : List X4) (k : Nat) (hk : k < l.length) : hasN (k * 4) 4 (mcells l) = true := by
  rw [hasN_iff, mcells_len]; omega
theorem mats_has (n : Nat) {k : Nat} (hk : k < 256) : hasN (k * 4) 4 (mcells (mats n)) = true := mcells_has _ _ (by rw [mats_len]; exact hk)
theorem matsK_has (n m : Nat) {k : Nat} (hk : k < 256) : hasN (k * 4) 4 (mcells (matsK n m)) = true := mcells_has _ _ (by rw [matsK_len]; exact hk)
theorem set_append_mid {α : Type} (a : List α) (x y : α) (b : List α) : (a ++ x :: b).set a.length y = a ++ y :: b := by
  induction a with
  | nil => rfl
  | cons z a ih => simp [ih]
theorem mcells_set (l : List X4) (k : Nat) (hk : k < l.length) (s : X4) : splice (mcells l) (k * 4) (cX s) = mcells (l.set k s) := by
  have h1 : l = l.take k ++ l[k] :: l.drop (k + 1) := by
    rw [List.getElem_cons_drop, List.take_append_drop]
  have hl : (l.take k).length = k := by rw [List.length_take]; omega
  have key : ∀ (a : List X4) (x : X4) (b : List X4), a.length = k → splice (mcells (a ++ x :: b)) (k * 4) (cX s) = mcells ((a ++ x :: b).set k s) := fun a x b ha => by
    subst ha
    rw [set_append_mid]
    have e : ∀ y : X4, mcells (a ++ y :: b) = mcells a ++ (cX y ++ mcells b) := fun y => by
      unfold mcells
      rw [List.map_append, List.map_cons, flat_append]
      rfl
    rw [e, e]
    unfold splice
    have la : (mcells a).length = a.length * 4 := mcells_len a
    rw [List.take_left' la, List.drop_append, la]
    have : List.drop (a.length * 4 + (cX s).length) (mcells a) = [] := List.drop_eq_nil_of_le (by rw [la]; omega)
    rw [this, List.nil_append, show a.length * 4 + (cX s).length - a.length * 4 = 4 by rw [show (cX s).length = 4 from rfl]; omega]
    rw [List.append_assoc]; rfl
  rw [h1]; exact key _ _ _ hl
theorem matsK_set (n : Nat) {k : Nat} (hk : k < 256) : (matsK n k).set k (xst (unit k) n) = matsK n (k + 1) := by
  refine List.ext_getElem (by simp [matsK]) fun i h1 h2 => ?_
  rw [List.getElem_set]
  simp only [matsK, List.getElem_map, List.getElem_range]
  by_cases e : k = i
  · subst e; simp
  · rw [if_neg e]
    by_cases g : i < k
    · rw [if_pos g, if_pos (by omega)]
    · rw [if_neg g, if_neg (by omega)]
theorem mcells_els (l : List X4) : ∃ xs, mcells l = els (V.n .u64) xs := by
  induction l with
  | nil => exact ⟨[], rfl⟩
  | cons s l ih =>
    obtain ⟨xs, h⟩ := ih
    refine ⟨[s.a, s.b, s.c, s.d] ++ xs, ?_⟩
    rw [← els_append, ← h]; rfl
@[go_sem] theorem gives1_n (k : IntKind) (st : St) (K : C2 St (List V)) (xs : List Nat) : @gives1 st (els (V.n k) xs) K = @C2.k _ _ K st (els (V.n k) xs) := by
  induction xs generalizing K with
  | nil => rfl
  | cons x xs ih =>
    show (V.clean (.n k x) = true ∧ @gives1 st (els (V.n k) xs) ⟨fun st ys => K.k st (.n k x :: ys)⟩) = _
    rw [ih]
    exact propext ⟨fun h => h.2, fun h => ⟨rfl, h⟩⟩
@[go_sem] theorem gives1_mcells (st : St) (K : C2 St (List V)) (l : List X4) : @gives1 st (mcells l) K = @C2.k _ _ K st (mcells l) := by
  obtain ⟨xs, h⟩ := mcells_els l
  rw [h, gives1_n]
@[go_sem] theorem withins_mcells (hs : List Nat) (l : List X4) : withins hs (mcells l) = true := by
  obtain ⟨xs, h⟩ := mcells_els l
  rw [h, els_within]
@[go_sem] theorem cleans_mcells (l : List X4) : cleans (mcells l) = true := by
  obtain ⟨xs, h⟩ := mcells_els l
  rw [h, els_clean]
theorem mats_clen (n : Nat) : (mcells (mats n)).length = 1024 := by rw [mcells_len, mats_len]
theorem mats_has0 (n : Nat) : hasN 0 1024 (mcells (mats n)) = true := by rw [hasN_iff, mats_clen]; omega
theorem mats_drop (n : Nat) : (mcells (mats n)).drop 1024 = [] := List.drop_eq_nil_of_le (by rw [mats_clen]; omega)
@[go_sem] theorem matsK_clen (m k : Nat) : (mcells (matsK m k)).length = 1024 := by rw [mcells_len, matsK_len]
@[go_sem] theorem matsK_drop (m k : Nat) : (mcells (matsK m k)).drop 1024 = [] := List.drop_eq_nil_of_le (by rw [matsK_clen]; omega)
@[go_sem] theorem matsK_take (m k : Nat) : (mcells (matsK m k)).take 1024 = mcells (matsK m k) := List.take_of_length_le (by rw [matsK_clen]; omega)
@[go_sem] theorem matsK_has0 (m k : Nat) : hasN 0 1024 (mcells (matsK m k)) = true := by rw [hasN_iff, matsK_clen]; omega
theorem mats_splice (n : Nat) {k : Nat} (hk : k < 256) : splice (mcells (matsK n k)) (k * 4) (cX (xst (unit k) n)) = mcells (matsK n (k + 1)) := by
  rw [mcells_set _ _ (by rw [matsK_len]; exact hk), matsK_set n hk]
theorem mcells_zero : ∀ n, mcells (List.replicate n x0) = (zs (n * 4)).map (V.n .u64)
  | 0 => rfl
  | n + 1 => by
    have : mcells (List.replicate (n + 1) x0) = cX x0 ++ mcells (List.replicate n x0) := rfl
    rw [this, mcells_zero n, Nat.succ_mul]
    unfold zs
    rw [show n * 4 + 4 = n * 4 + 1 + 1 + 1 + 1 from rfl]
    simp only [List.replicate_succ, List.map_cons]
    rfl
theorem mats_zero (n : Nat) : mcells (matsK n 0) = (zs 1024).map (V.n .u64) := by
  have : matsK n 0 = List.replicate 256 x0 := by
    refine List.ext_getElem (by simp [matsK_len]) fun i h1 h2 => ?_
    rw [List.getElem_replicate]
    simp only [matsK, List.getElem_map, Nat.not_lt_zero, if_false]
  rw [this, mcells_zero]
end Go.Proofs.Ytaojebdjkpdcdaa.I
