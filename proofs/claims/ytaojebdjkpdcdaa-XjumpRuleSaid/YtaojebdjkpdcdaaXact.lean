/- Polynomials act on states; the rule acts as 0 on each; it is the least one of the bits. -/
import Derived.Test.YtaojebdjkpdcdaaXlin
import Derived.Test.YtaojebdjkpdcdaaG2
import Derived.Test.YtaojebdjkpdcdaaG1
namespace Go.Proofs.Ytaojebdjkpdcdaa.I
open Go
set_option linter.unusedSimpArgs false
set_option linter.unusedVariables false

/-- A polynomial acts on a state. -/
def act (p : Nat) (s : X4) : X4 := xat p s (bl p)
theorem act_of {p n : Nat} (h : bl p ≤ n) (s : X4) : xat p s n = act p s := by
  have := xat_more s (Nat.le_refl (bl p)) (n - bl p)
  rw [show bl p + (n - bl p) = n by omega] at this
  exact this
theorem act_zero (s : X4) : act 0 s = x0 := rfl
theorem act_xor (p q : Nat) (s : X4) : act (p ^^^ q) s = xadd (act p s) (act q s) := by
  have h := bl_xor_le p q
  rw [← act_of (n := max (bl p) (bl q)) h, xat_xor, act_of (by omega), act_of (by omega)]
theorem xat_two (p : Nat) (s : X4) : ∀ n, xat (2 * p) s (n + 1) = xat p (xstep s) n
  | 0 => by
    show (if (2 * p).testBit 0 = true then _ else xat (2 * p) s 0) = _
    rw [tb20]; rfl
  | n + 1 => by
    rw [xat, xat_two p s n, tb2, xat, xst_step]; rfl
theorem act_two (p : Nat) (s : X4) : act (2 * p) s = act p (xstep s) := by
  by_cases h : p = 0
  · subst h; rfl
  · rw [act, bl_two_mul h, xat_two]; rfl
theorem act_one (s : X4) : act 1 s = s := by
  rw [act, show bl 1 = 1 by decide, xat, if_pos (by decide)]; exact zero_xadd s
theorem act_wf (p : Nat) {s : X4} (h : s.wf) : (act p s).wf := xat_wf p h _
theorem act_add (p : Nat) {s t : X4} (h : s.wf) (g : t.wf) : act p (xadd s t) = xadd (act p s) (act p t) := xat_add p h g _
theorem act_step (p : Nat) {s : X4} (h : s.wf) : act p (xstep s) = xstep (act p s) := xat_step p h _
theorem act_st (p : Nat) {s : X4} (h : s.wf) : ∀ n, act p (xst s n) = xst (act p s) n
  | 0 => rfl
  | n + 1 => by rw [xst, act_step p (xst_wf h n), act_st p h n]; rfl
theorem xst_zero : ∀ n, xst x0 n = x0
  | 0 => rfl
  | n + 1 => by rw [xst, xst_zero n, xstep_zero]
theorem act_x0 (p : Nat) : act p x0 = x0 := by
  have : ∀ n, xat p x0 n = x0 := fun n => by
    induction n with
    | zero => rfl
    | succ n ih => rw [xat, ih, xst_zero, xadd_zero]; split <;> rfl
  exact this _
theorem act_cm (p q : Nat) {s : X4} (h : s.wf) : act (cm p q) s = act p (act q s) := by
  refine bitsInd (p := fun p => ∀ s : X4, s.wf → act (cm p q) s = act p (act q s)) ?_ ?_ ?_ p s h
  · intro s h; rw [cm_zero_left, act_zero, act_zero]
  · intro a ih s h
    rw [cm_two_left, act_two, act_two, ih _ (xstep_wf h), act_step q h]
  · intro a ih s h
    rw [cm_odd_left, act_xor, act_two, ih _ (xstep_wf h), act_step q h, odd_xor, act_xor, act_one, act_two]
theorem act_pow (n : Nat) : ∀ s : X4, act (2 ^ n) s = xst s n := by
  induction n with
  | zero => intro s; rw [Nat.pow_zero, act_one]; rfl
  | succ n ih => intro s; rw [Nat.pow_succ, Nat.mul_comm, act_two, ih, xst_step]; rfl
theorem cpw_two (n : Nat) : cpw 2 n = 2 ^ n := by
  induction n with
  | zero => rfl
  | succ n ih => rw [cpw, ih, cm_comm, show (2 : Nat) = 2 * 1 from rfl, cm_two_left, cm_one_left]; rw [Nat.mul_one, Nat.pow_succ, Nat.mul_comm]

/-! ### the rule -/
def x1 : X4 := ⟨1, 0, 0, 0⟩
theorem x1_wf : x1.wf := ⟨by decide, by decide, by decide, by decide⟩
theorem RP_ne : RP ≠ 0 := by decide +kernel
theorem RP_x1 : act RP x1 = x0 := by
  rw [← act_of (n := 257) (by rw [bl_RP]; omega)]
  decide +kernel
theorem x1_faith {q : Nat} {s : X4} (hs : s.wf) (h0 : s ≠ x0) (hR : act RP s = x0) (h : act q s = x0) : dv RP q := by
  refine Classical.byContradiction fun hd => h0 ?_
  have g : gd q RP = 1 := by
    rcases RP_irr.2 _ (gd_dv_right q RP) with e | e
    · exact e
    · exact absurd (e ▸ gd_dv_left q RP) hd
  obtain ⟨a, b, e⟩ := gd_bezout q RP
  rw [g] at e
  rw [← act_one s, e, act_xor, act_cm _ _ hs, act_cm _ _ hs, h, hR, act_x0, act_x0, xadd_zero]
theorem x1_same {p q : Nat} {s : X4} (hs : s.wf) (h0 : s ≠ x0) (hR : act RP s = x0) (h : act p s = act q s) : cg RP p q := by
  refine x1_faith hs h0 hR ?_
  rw [act_xor, h, xadd_self]
/-- A state as one number. -/
def pk (s : X4) : Nat := ((s.d * 18446744073709551616 + s.c) * 18446744073709551616 + s.b) * 18446744073709551616 + s.a
theorem pk_lt {s : X4} (h : s.wf) : pk s < 115792089237316195423570985008687907853269984665640564039457584007913129639936 := by
  obtain ⟨h1, h2, h3, h4⟩ := h
  unfold pk; omega
theorem pk_inj {s t : X4} (h : s.wf) (g : t.wf) (e : pk s = pk t) : s = t := by
  obtain ⟨h1, h2, h3, h4⟩ := h
  obtain ⟨g1, g2, g3, g4⟩ := g
  unfold pk at e
  refine x4_ext ?_ ?_ ?_ ?_ <;> omega
theorem act_onto {s : X4} (h : s.wf) : ∃ p, act p x1 = s := by
  obtain ⟨N, hN⟩ : ∃ N : Nat, (115792089237316195423570985008687907853269984665640564039457584007913129639936 : Nat) = N := ⟨_, rfl⟩
  have small : ∀ p, p < N → bl p < bl RP := fun p hp => by
    rw [bl_RP]
    refine Nat.lt_succ_of_le (bl_lt.2 ?_)
    rw [show (2 : Nat) ^ 256 = 115792089237316195423570985008687907853269984665640564039457584007913129639936 from rfl, hN]; exact hp
  have pm : ((List.range N).map fun p => pk (act p x1)).Perm (List.range N) := by
    refine perm_of ?_ (fun y hy => ?_) (by simp)
    · rw [List.nodup_iff_pairwise_ne, List.pairwise_map]
      refine List.Pairwise.imp_of_mem ?_ (List.nodup_iff_pairwise_ne.1 List.nodup_range)
      intro p q hp hq hne e
      rw [List.mem_range] at hp hq
      exact hne (cg_small (x1_same x1_wf (by decide) RP_x1 (pk_inj (act_wf p x1_wf) (act_wf q x1_wf) e)) (small p hp) (small q hq))
    · obtain ⟨p, hp, rfl⟩ := List.mem_map.1 hy
      rw [List.mem_range, ← hN]; exact pk_lt (act_wf p x1_wf)
  have : pk s ∈ List.range N := by rw [List.mem_range, ← hN]; exact pk_lt h
  obtain ⟨p, _, e⟩ := List.mem_map.1 (pm.mem_iff.2 this)
  exact ⟨p, pk_inj (act_wf p x1_wf) h e⟩
theorem act_RP {s : X4} (h : s.wf) : act RP s = x0 := by
  obtain ⟨p, rfl⟩ := act_onto h
  rw [← act_cm _ _ x1_wf, cm_comm, act_cm _ _ x1_wf, RP_x1, act_x0]
theorem act_same {p q : Nat} {s : X4} (hs : s.wf) (h : cg RP p q) : act p s = act q s := by
  obtain ⟨k, hk⟩ := h
  have e : p = cm k RP ^^^ q := (xor_eq.1 hk)
  rw [e, act_xor, act_cm _ _ hs, act_RP hs, act_x0, zero_xadd]
theorem act_iff {p q : Nat} {s : X4} (hs : s.wf) (h0 : s ≠ x0) : act p s = act q s ↔ cg RP p q :=
  ⟨x1_same hs h0 (act_RP hs), act_same hs⟩
theorem act_rm (p : Nat) {s : X4} (hs : s.wf) : act (rm p RP) s = act p s := act_same hs (cg_rm _ RP_ne)
theorem act_pwr (n : Nat) {s : X4} (hs : s.wf) : act (pwr 2 RP n) s = xst s n := by
  rw [pwr_cpw 2 RP_ne, act_rm _ hs, cpw_two, act_pow]
theorem act_sqn (n : Nat) {s : X4} (hs : s.wf) : act (sqn 2 RP n) s = xst s (2 ^ n) := by
  rw [sqn_pwr 2 RP_ne, act_pwr _ hs]
theorem xst_ne {s : X4} (hs : s.wf) (h0 : s ≠ x0) (n : Nat) : xst s n ≠ x0 := fun e => by
  have : act (2 ^ n) s = act 0 s := by rw [act_pow, e, act_zero]
  have d := (act_iff hs h0).1 this
  unfold cg at d; rw [Nat.xor_zero, ← cpw_two] at d
  have key : ∀ n, ¬ dv RP (cpw 2 n) := fun n => by
    induction n with
    | zero => exact RP_irr.not_one
    | succ n ih =>
      intro d
      rcases RP_irr.prime d with d | d
      · exact ih d
      · have := dv_bl d (by decide); rw [bl_RP] at this; exact absurd this (by decide)
  exact key n d

/-! ### its bits -/
theorem xbits_get (s : X4) : ∀ {n k : Nat}, k < n → (xbits s n).getD k false = decide ((xst s k).a &&& 1 = 1)
  | n + 1, k, h => by
    rw [xbits, List.getD_eq_getElem?_getD, List.getElem?_append]
    rw [xbits_len]
    split
    · rename_i g; rw [← List.getD_eq_getElem?_getD, xbits_get s g]
    · rw [show k = n by omega, Nat.sub_self]; rfl
theorem low_bit (x : Nat) : decide (x &&& 1 = 1) = x.testBit 0 := by
  rw [Nat.testBit_zero, Nat.and_one_is_mod]
theorem od_xbits (p : Nat) (s : X4) {n i d : Nat} (h : i + d < n) : od p (xbits s n) i d = (xat p (xst s i) (d + 1)).a.testBit 0 := by
  have key : ∀ m, i + m ≤ n → px m (fun k => p.testBit k && (xbits s n).getD (i + k) false) = (xat p (xst s i) m).a.testBit 0 := fun m => by
    induction m with
    | zero =>
      intro _
      show false = Nat.testBit 0 0
      simp
    | succ m ih =>
      intro hm
      rw [px, ih (by omega), xbits_get s (by omega), low_bit, xat, xst_xst]
      cases p.testBit m
      · simp
      · rw [if_pos rfl]
        show _ = ((xat p (xst s i) m).a ^^^ (xst s (i + m)).a).testBit 0
        rw [Nat.testBit_xor]; simp
  exact key (d + 1) (by omega)
theorem RP_ru {s : X4} (h : s.wf) (n : Nat) : Ru (xbits s n) RP := by
  refine ⟨RP_ne, fun i hi => ?_⟩
  rw [bl_RP, xbits_len] at hi
  rw [bl_RP, od_xbits _ _ hi, act_of (n := 257) (by rw [bl_RP]; omega), act_RP (xst_wf h i)]
  rfl
theorem lst_RP : lst (xbits x1 512) = RP := by
  have d : dv (lst (xbits x1 512)) RP := lst_dv (RP_ru x1_wf 512) (by rw [bl_RP, xbits_len]; omega)
  rcases RP_irr.2 _ d with e | e
  · have r := (lst_ru (xbits x1 512)).1
    rw [e] at r
    have := r.2 0 (by rw [xbits_len]; decide)
    rw [show bl 1 - 1 = 0 by decide, od_xbits _ _ (by omega)] at this
    exact absurd this (by decide)
  · exact e
theorem lc_RP : lc (xbits x1 512) = 256 := by
  have := (lst_ru (xbits x1 512)).2
  rw [lst_RP, bl_RP] at this
  omega
end Go.Proofs.Ytaojebdjkpdcdaa.I
