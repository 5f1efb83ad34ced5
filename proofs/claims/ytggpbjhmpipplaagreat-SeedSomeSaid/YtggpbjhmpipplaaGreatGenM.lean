/- What jumps do: so many steps; below the limit all are apart. -/
import Derived.Test.YtggpbjhmpipplaaGreatSeed2
namespace Go.Proofs.YtggpbjhmpipplaaGreat.I
open Go
set_option linter.unusedVariables false
set_option linter.unusedSimpArgs false

/-! ### one kind at a time -/
theorem mixst_jump {m : Nat} (h : m < 18446744073709551616) : ∀ n, mixst m n = mjump m n
  | 0 => by unfold mjump; rw [Nat.zero_mul, Nat.add_zero, Nat.mod_eq_of_lt h, mixst]
  | n + 1 => by
    rw [mixst, mixst_jump h n]
    unfold mstep mjump
    rw [Nat.mod_add_mod, Nat.add_mul, Nat.one_mul, Nat.add_assoc]
theorem mul_gamma : 11400714819323198485 * 17428512612931826493 % 18446744073709551616 = 1 := by decide
theorem mod_cancel {m A B N : Nat} (h : (m + A) % N = (m + B) % N) : A % N = B % N := by
  rcases Nat.eq_zero_or_pos N with rfl | hN
  · simpa using h
  have e : ∀ X, (m * N - m + (m + X)) % N = X % N := fun X => by
    have : m ≤ m * N := Nat.le_mul_of_pos_right m hN
    rw [show m * N - m + (m + X) = X + m * N by omega, Nat.add_mul_mod_self_right]
  rw [← e A, ← e B, Nat.add_mod, h, ← Nat.add_mod]
theorem mjump_inj {m n k : Nat} (hn : n < 18446744073709551616) (hk : k < 18446744073709551616) (h : mjump m n = mjump m k) : n = k := by
  unfold mjump at h
  exact mul_inj mul_gamma hn hk (mod_cancel h)

theorem hjump_zero {f : HS} (h : f.wf) : hjump f 0 = f := by
  have := h.1
  obtain ⟨c, k, b⟩ := f
  unfold hjump
  simp only [Nat.zero_mod, Nat.zero_ne_one, if_false, Nat.zero_shiftRight, Nat.add_zero] at this ⊢
  rw [Nat.mod_eq_of_lt this]
theorem hjump_succ (f : HS) (n : Nat) : hjump f (n + 1) = hstep (hjump f n) := by
  obtain ⟨c, k, b⟩ := f
  have e1 : (n + 1) >>> 1 = (n + 1) / 2 := rfl
  have e2 : n >>> 1 = n / 2 := rfl
  unfold hjump
  rw [e1, e2]
  by_cases h : n % 2 = 1
  · have h' : ¬ (n + 1) % 2 = 1 := by omega
    rw [if_pos h, if_pos h, if_neg h', if_neg h']
    have e3 : (n + 1) / 2 = n / 2 + 1 := by omega
    cases b
    · simp only [hstep, Bool.false_eq_true, if_false, Bool.not_false, if_true, Bool.not_true, HS.mk.injEq, and_true, true_and, e3]
      omega
    · simp only [hstep, Bool.false_eq_true, if_false, Bool.not_false, if_true, Bool.not_true, HS.mk.injEq, and_true, true_and, e3]
      omega
  · have h' : (n + 1) % 2 = 1 := by omega
    rw [if_neg h, if_neg h, if_pos h', if_pos h']
    have e3 : (n + 1) / 2 = n / 2 := by omega
    cases b
    · simp only [hstep, Bool.false_eq_true, if_false, Bool.not_false, if_true, Bool.not_true, HS.mk.injEq, and_true, true_and, e3]
    · simp only [hstep, Bool.false_eq_true, if_false, Bool.not_false, if_true, Bool.not_true, HS.mk.injEq, and_true, true_and, e3]
      omega
theorem hjump_inj {f : HS} {n m : Nat} (hn : n < 340282366920938463463374607431768211456) (hm : m < 340282366920938463463374607431768211456) (h : hjump f n = hjump f m) : n = m := by
  obtain ⟨c, k, b⟩ := f
  have e1 : n >>> 1 = n / 2 := rfl
  have e2 : m >>> 1 = m / 2 := rfl
  unfold hjump at h
  rw [e1, e2] at h
  by_cases h1 : n % 2 = 1 <;> by_cases h2 : m % 2 = 1 <;> cases b <;>
    simp only [h1, h2, hstep, if_true, if_false, Bool.false_eq_true, Bool.not_false, Bool.not_true, HS.mk.injEq, and_true, true_and, and_false, reduceCtorEq] at h <;> omega

theorem pcgJ_zero {p : D2} (h : p.wf) : pcgJ p 0 = p := by
  have := h.1
  obtain ⟨a, b⟩ := p
  unfold pcgJ aat
  simp only [apow, aone, Nat.one_mul, Nat.add_zero]
  rw [Nat.mod_eq_of_lt this]
theorem pcgJ_succ (p : D2) (n : Nat) : pcgJ p (n + 1) = pcgS (pcgJ p n) := by
  unfold pcgJ pcgS
  simp only [apow]
  rw [aat_then]

/-- 1 + a + a^2 + .. -/
def geo (a : Nat) : Nat → Nat
  | 0 => 0
  | n + 1 => a * geo a n + 1
theorem geo_add (a n : Nat) : ∀ m, geo a (n + m) = a ^ m * geo a n + geo a m
  | 0 => by simp [geo]
  | m + 1 => by
    rw [← Nat.add_assoc, geo, geo_add a n m, geo, Nat.mul_add, Nat.pow_succ', Nat.mul_assoc, Nat.add_assoc]
theorem pow_geo (q : Nat) : ∀ n, (q + 1) ^ n = q * geo (q + 1) n + 1
  | 0 => by simp [geo]
  | n + 1 => by
    rw [Nat.pow_succ', pow_geo q n, geo, Nat.mul_add, Nat.mul_add, Nat.mul_left_comm, Nat.mul_one, Nat.mul_one]
    omega
theorem apow_geo (a c : Nat) : ∀ n, apow ⟨a, c⟩ n = ⟨a ^ n % 340282366920938463463374607431768211456, c * geo a n % 340282366920938463463374607431768211456⟩
  | 0 => by
    simp only [apow, aone, geo, Nat.pow_zero, Nat.mul_zero, Nat.zero_mod]
  | n + 1 => by
    rw [apow, apow_geo a c n]
    unfold athen aat
    simp only [geo, D2.mk.injEq]
    refine ⟨by rw [Nat.mul_mod_mod, Nat.pow_succ'], ?_⟩
    rw [Nat.add_mod, Nat.mul_mod_mod, ← Nat.add_mod, Nat.mul_add, Nat.mul_one, Nat.mul_left_comm]
theorem aat_geo (q c s n : Nat) : aat (apow ⟨q + 1, c⟩ n) s = (s + geo (q + 1) n * (q * s + c)) % 340282366920938463463374607431768211456 := by
  rw [apow_geo]
  unfold aat
  simp only
  rw [Nat.add_mod, Nat.mod_mul_mod, Nat.mod_mod, ← Nat.add_mod, pow_geo]
  congr 1
  generalize geo (q + 1) n = g
  rw [Nat.add_mul, Nat.mul_add, Nat.one_mul, Nat.mul_comm c g, Nat.mul_comm q g, Nat.mul_assoc]
  omega
theorem geo_par {a : Nat} (ha : a % 2 = 1) : ∀ n, geo a n % 2 = n % 2
  | 0 => rfl
  | n + 1 => by
    have := geo_par ha n
    rw [geo, Nat.add_mod, Nat.mul_mod, ha, Nat.one_mul, Nat.mod_mod, this]; omega
theorem pow_mod4 {a : Nat} (ha : a % 4 = 1) : ∀ n, a ^ n % 4 = 1
  | 0 => rfl
  | n + 1 => by rw [Nat.pow_succ, Nat.mul_mod, pow_mod4 ha n, ha]
theorem odd_cop {k w : Nat} (h : w % 2 = 1) : Nat.Coprime (2 ^ k) w := by
  refine Nat.Coprime.pow_left k ?_
  unfold Nat.Coprime
  have h1 := Nat.gcd_dvd_left 2 w
  have h2 := Nat.gcd_dvd_right 2 w
  have : Nat.gcd 2 w ≤ 2 := Nat.le_of_dvd (by omega) h1
  rcases (show Nat.gcd 2 w = 0 ∨ Nat.gcd 2 w = 1 ∨ Nat.gcd 2 w = 2 by omega) with e | e | e
  · rw [e] at h1; omega
  · exact e
  · rw [e] at h2; omega
theorem geo_two {a : Nat} (ha : a % 4 = 1) : ∀ (k d : Nat), 2 ^ k ∣ geo a d → 2 ^ k ∣ d
  | 0, d, _ => by simp
  | k + 1, d, h => by
    have hp : 2 ∣ geo a d := Nat.dvd_trans (by rw [Nat.pow_succ']; exact Nat.dvd_mul_right _ _) h
    have hpar := geo_par (a := a) (by omega) d
    have hd : d % 2 = 0 := by omega
    obtain ⟨e, rfl⟩ : ∃ e, d = e + e := ⟨d / 2, by omega⟩
    have h4 := pow_mod4 ha e
    have e1 : geo a (e + e) = 2 * (geo a e * ((a ^ e + 1) / 2)) := by
      rw [geo_add]
      have : a ^ e + 1 = 2 * ((a ^ e + 1) / 2) := by omega
      calc a ^ e * geo a e + geo a e = geo a e * (a ^ e + 1) := by rw [Nat.mul_add, Nat.mul_one, Nat.mul_comm]
        _ = geo a e * (2 * ((a ^ e + 1) / 2)) := by rw [← this]
        _ = _ := by rw [Nat.mul_left_comm]
    rw [e1, Nat.pow_succ'] at h
    have h5 := Nat.dvd_of_mul_dvd_mul_left (by omega) h
    have h6 := (odd_cop (k := k) (w := (a ^ e + 1) / 2) (by omega)).dvd_of_dvd_mul_right h5
    have h7 := geo_two ha k e h6
    rw [Nat.pow_succ', ← Nat.two_mul]
    exact Nat.mul_dvd_mul_left 2 h7
theorem pcgJ_inj0 {p : D2} (hp : p.b % 2 = 1) {m d : Nat} (hd : 0 < d) (hd2 : d < 340282366920938463463374607431768211456) (h : pcgJ p (m + d) = pcgJ p m) : False := by
  have h : aat (apow ⟨15750249268501108916 + 1, p.b⟩ (m + d)) p.a = aat (apow ⟨15750249268501108916 + 1, p.b⟩ m) p.a := congrArg D2.a h
  rw [aat_geo, aat_geo] at h
  have h := mod_cancel h
  rw [Nat.add_comm m d, geo_add, Nat.add_mul] at h
  generalize hw : 15750249268501108916 * p.a + p.b = w at h
  generalize hg : geo (15750249268501108916 + 1) m = g at h
  have hm : (15750249268501108916 + 1) ^ m % 2 = 1 := by have := pow_mod4 (a := 15750249268501108916 + 1) (by decide) m; omega
  generalize (15750249268501108916 + 1) ^ m = A at h hm
  have h2 : 2 ^ 128 ∣ A * geo (15750249268501108916 + 1) d * w := by
    rw [Nat.add_comm] at h
    have := mod_cancel (A := A * geo (15750249268501108916 + 1) d * w) (B := 0) (m := g * w) (by rw [h, Nat.add_zero])
    exact Nat.dvd_of_mod_eq_zero this
  have h3 := (odd_cop (k := 128) (w := w) (by omega)).dvd_of_dvd_mul_right h2
  have h4 := (odd_cop (k := 128) (w := A) hm).dvd_of_dvd_mul_left h3
  have h5 := geo_two (by decide) 128 d h4
  have := Nat.le_of_dvd hd h5
  have e : (2 : Nat) ^ 128 = 340282366920938463463374607431768211456 := by decide
  omega
theorem pcgJ_inj {p : D2} (hp : p.b % 2 = 1) {n m : Nat} (hn : n < 340282366920938463463374607431768211456) (hm : m < 340282366920938463463374607431768211456) (h : pcgJ p n = pcgJ p m) : n = m := by
  rcases Nat.lt_trichotomy n m with g | g | g
  · obtain ⟨d, rfl⟩ : ∃ d, m = n + d := ⟨m - n, by omega⟩
    exact (pcgJ_inj0 hp (by omega) (by omega) h.symm).elim
  · exact g
  · obtain ⟨d, rfl⟩ : ∃ d, n = m + d := ⟨n - m, by omega⟩
    exact (pcgJ_inj0 hp (by omega) (by omega) h).elim

/-! ### all kinds -/
theorem gst_gjump {s : GS} (hw : s.wf) (h : gok s) : ∀ n, gst s n = gjump s n
  | 0 => by
    obtain ⟨m, rfl⟩ | ⟨x, hx, rfl⟩ | ⟨p, hp, rfl⟩ | ⟨f, rfl⟩ := gok_cases h
    · have hm : m < 18446744073709551616 := hw.1
      rw [gst, gjump_1, ← mixst_jump hm, mixst]
    · rw [gst, gjump_2, xst]
    · have hm : p.wf := hw.2.2.1
      rw [gst, gjump_3, pcgJ_zero hm]
    · have hm : f.wf := hw.2.2.2
      rw [gst, gjump_4, hjump_zero hm]
  | n + 1 => by
    rw [gst, gst_gjump hw h n]
    obtain ⟨m, rfl⟩ | ⟨x, hx, rfl⟩ | ⟨p, hp, rfl⟩ | ⟨f, rfl⟩ := gok_cases h
    · have hm : m < 18446744073709551616 := hw.1
      rw [gjump_1, gstep_1, gjump_1, ← mixst_jump hm, ← mixst_jump hm, mixst]
    · have hm : x.wf := hw.2.1
      rw [gjump_2, gstep_2 (xst_ne0 hm hx n), gjump_2, xst]
    · rw [gjump_3, gstep_3 (by rw [pcgJ_b]; exact hp), gjump_3, pcgJ_succ]
    · rw [gjump_4, gstep_4, gjump_4, hjump_succ]
theorem gst_add (s : GS) (n : Nat) : ∀ m, gst s (n + m) = gst (gst s n) m
  | 0 => rfl
  | m + 1 => by rw [← Nat.add_assoc, gst, gst_add s n m, gst]
theorem gjump_add {s : GS} (hw : s.wf) (h : gok s) (n m : Nat) : gjump (gjump s n) m = gjump s (n + m) := by
  obtain ⟨j1, j2, j3⟩ := gjump_ok hw h n
  rw [← gst_gjump j1 j2, ← gst_gjump hw h, ← gst_gjump hw h, gst_add]
theorem gjump_inj {s : GS} (hw : s.wf) (h : gok s) {n m : Nat} (hn : n < glim s.kind) (hm : m < glim s.kind) (e : gjump s n = gjump s m) : n = m := by
  obtain ⟨x, rfl⟩ | ⟨x, hx, rfl⟩ | ⟨x, hx, rfl⟩ | ⟨x, rfl⟩ := gok_cases h
  · rw [g1_kind] at hn hm
    have e1 : glim 1 = 9223372036854775808 := rfl
    exact mjump_inj (by omega) (by omega) (congrArg GS.mix e)
  · rw [g2_kind] at hn hm
    have e1 : glim 2 = 170141183460469231731687303715884105728 := rfl
    exact (xst_inj hw.2.1 hx (by omega) (by omega)).1 (congrArg GS.x e)
  · rw [g3_kind] at hn hm
    have e1 : glim 3 = 170141183460469231731687303715884105728 := rfl
    exact pcgJ_inj hx (by omega) (by omega) (congrArg GS.p e)
  · rw [g4_kind] at hn hm
    have e1 : glim 4 = 170141183460469231731687303715884105728 := rfl
    exact hjump_inj (by omega) (by omega) (congrArg GS.f e)
theorem snew_inj {k : Int} {a b : Nat} (hk : 1 ≤ k ∧ k ≤ 4) (ha : a < 18446744073709551616) (hb : b < 18446744073709551616) (h : snew k a = snew k b) : a = b := by
  have ea := sw_a a
  have eb := sw_a b
  have la := sw_wf a
  have lb := sw_wf b
  have hm := mword_inj ha hb
  rw [← ea, ← eb] at hm
  have s1 := snew_1 a; have s2 := snew_2 a; have s3 := snew_3 a; have s4 := snew_4 a
  have t1 := snew_1 b; have t2 := snew_2 b; have t3 := snew_3 b; have t4 := snew_4 b
  generalize sw a = u at *
  generalize sw b = v at *
  obtain rfl | rfl | rfl | rfl : k = 1 ∨ k = 2 ∨ k = 3 ∨ k = 4 := by omega
  · rw [s1, t1] at h
    exact congrArg GS.mix h
  · rw [s2, t2] at h
    have h : u = v := congrArg GS.x h
    exact hm (by rw [h])
  · rw [s3, t3] at h
    have h : u.a * 18446744073709551616 + u.b = v.a * 18446744073709551616 + v.b := congrArg (fun g => g.p.a) h
    have h1 := la.2.1
    have h2 := lb.2.1
    exact hm (by omega)
  · rw [s4, t4] at h
    have h1 : u.a % 4294967296 = v.a % 4294967296 := congrArg (fun g => g.f.k.a) h
    have h2 : u.a >>> 32 % 4294967296 = v.a >>> 32 % 4294967296 := congrArg (fun g => g.f.k.b) h
    rw [Nat.shiftRight_eq_div_pow, Nat.shiftRight_eq_div_pow] at h2
    have l1 := la.1
    have l2 := lb.1
    exact hm (by omega)
theorem swords_add (s : GS) (a b : Nat) : swords s (a + b) = swords s a ++ swords (gst s a) b := by
  unfold swords
  rw [List.range_add, List.map_append, List.map_map]
  congr 1
  apply List.map_congr_left
  intro i _
  show gword (gst s (a + i)) = _
  rw [gst_add]
end Go.Proofs.YtggpbjhmpipplaaGreat.I
