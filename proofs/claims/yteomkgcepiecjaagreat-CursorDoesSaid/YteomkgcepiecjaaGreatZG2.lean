/- Texts of the ideal machine, or of plain numbers, one behind the other: Fast, Rule1, Pri. -/
import Derived.Test.YteomkgcepiecjaaGreatZG1
/- Products as rests, in a form that the kernel computes fast. -/
namespace Go.Proofs.YteomkgcepiecjaaGreat.I
open Go
set_option linter.unusedSimpArgs false
set_option linter.unusedVariables false
def mmR (d p t : Nat) : Nat := t ^^^ (t >>> d) * p
def mm (d p : Nat) : Nat → Nat → Nat → Nat → Nat
  | 0, acc, _, _ => acc
  | k + 1, acc, a, b => match mmR d p (2 * acc ^^^ (a >>> k % 2) * b) with
    | 0 => mm d p k 0 a b
    | n + 1 => mm d p k (n + 1) a b
def sqs (d p : Nat) : Nat → Nat → Nat
  | 0, x => x
  | n + 1, x => match mm d p d 0 x x with
    | 0 => sqs d p n 0
    | m + 1 => sqs d p n (m + 1)
theorem mm_succ (d p k acc a b : Nat) : mm d p (k + 1) acc a b = mm d p k (mmR d p (2 * acc ^^^ (a >>> k % 2) * b)) a b := by
  rw [mm]; split <;> simp_all
theorem sqs_succ (d p n x : Nat) : sqs d p (n + 1) x = sqs d p n (mm d p d 0 x x) := by
  rw [sqs]; split <;> simp_all
theorem mmR_spec {d p t : Nat} (hp : bl p = d + 1) (ht : bl t ≤ d + 1) : bl (mmR d p t) ≤ d ∧ cg p (mmR d p t) t := by
  have h1 : t < 2 ^ (d + 1) := bl_lt.1 ht
  have h2 : t >>> d = 0 ∨ t >>> d = 1 := by
    rw [Nat.shiftRight_eq_div_pow]
    have : t / 2 ^ d < 2 := Nat.div_lt_of_lt_mul (by rw [Nat.pow_succ] at h1; exact h1)
    generalize t / 2 ^ d = q at this
    omega
  unfold mmR
  rcases h2 with h | h <;> rw [h]
  · rw [Nat.zero_mul, Nat.xor_zero]
    refine ⟨bl_lt.2 ?_, cg_refl _ _⟩
    rw [Nat.shiftRight_eq_div_pow] at h
    exact (Nat.div_eq_zero_iff_lt (Nat.two_pow_pos d)).1 h
  · rw [Nat.one_mul]
    have hb : bl t = d + 1 := by
      rcases Nat.lt_or_ge (bl t) (d + 1) with g | g
      · have : t < 2 ^ d := bl_lt.1 (by omega)
        rw [Nat.shiftRight_eq_div_pow, Nat.div_eq_of_lt this] at h; omega
      · omega
    have h0 : t ≠ 0 := by rintro rfl; rw [bl_zero] at hb; omega
    have := bl_xor_lt (x := t) (y := p) (by omega) h0
    refine ⟨by omega, ?_⟩
    unfold cg
    rw [Nat.xor_comm t p, Nat.xor_assoc, Nat.xor_self, Nat.xor_zero]
    exact dv_refl p
theorem mod_succ_bit (a k : Nat) : a % 2 ^ (k + 1) = (a % 2 ^ k) ^^^ ((a >>> k % 2) <<< k) := by
  apply Nat.eq_of_testBit_eq
  intro i
  rw [Nat.testBit_xor, Nat.testBit_mod_two_pow, Nat.testBit_mod_two_pow, Nat.testBit_shiftLeft]
  have e : ∀ j, (a >>> k % 2).testBit j = (decide (j = 0) && a.testBit k) := fun j => by
    have h2 : a.testBit k = decide (a / 2 ^ k % 2 = 1) := Nat.testBit_eq_decide_div_mod_eq
    rw [Nat.shiftRight_eq_div_pow, h2]
    rcases Nat.mod_two_eq_zero_or_one (a / 2 ^ k) with h | h <;> rw [h]
    · simp
    · cases j with
      | zero => simp
      | succ j => simp [Nat.testBit_succ]
  rw [e]
  rcases Nat.lt_trichotomy i k with h | h | h
  · have h1 : i < k + 1 := by omega
    have h2 : ¬ k ≤ i := by omega
    simp [h, h1, h2]
  · subst h; simp
  · have h1 : ¬ i < k + 1 := by omega
    have h2 : ¬ i < k := by omega
    have h3 : ¬ i - k = 0 := by omega
    simp [h1, h2, h3]
theorem mod_succ_add (a k : Nat) : a % 2 ^ (k + 1) = 2 ^ k * (a >>> k % 2) + a % 2 ^ k := by
  rw [Nat.shiftRight_eq_div_pow, Nat.pow_succ, Nat.mod_mul, Nat.add_comm]
theorem mm_spec {d p : Nat} (hp : bl p = d + 1) {b : Nat} (hb : bl b ≤ d) (a : Nat) : ∀ (k acc : Nat), bl acc ≤ d → bl (mm d p k acc a b) ≤ d ∧ cg p (mm d p k acc a b) (cm acc (2 ^ k) ^^^ cm (a % 2 ^ k) b)
  | 0, acc, h => by
    rw [mm, Nat.pow_zero, Nat.mod_one, cm_one_right, cm_zero_left, Nat.xor_zero]
    exact ⟨h, cg_refl _ _⟩
  | k + 1, acc, h => by
    rw [mm_succ]
    obtain ⟨t, ht⟩ : ∃ t, 2 * acc ^^^ (a >>> k % 2) * b = t := ⟨_, rfl⟩
    have two : 2 * acc = cm 2 acc := by rw [show (2 : Nat) = 2 * 1 from rfl, cm_two_left, cm_one_left]
    have bit : (a >>> k % 2) * b = cm (a >>> k % 2) b := by
      rcases Nat.mod_two_eq_zero_or_one (a >>> k) with h | h <;> rw [h]
      · rw [Nat.zero_mul, cm_zero_left]
      · rw [Nat.one_mul, cm_one_left]
    have b1 : bl (2 * acc) ≤ d + 1 := by
      refine bl_lt.2 ?_
      have := bl_lt.1 h
      rw [Nat.pow_succ]; omega
    have b2 : bl ((a >>> k % 2) * b) ≤ d := by
      rcases Nat.mod_two_eq_zero_or_one (a >>> k) with h | h <;> rw [h]
      · rw [Nat.zero_mul, bl_zero]; omega
      · rw [Nat.one_mul]; exact hb
    have b3 := bl_xor_le (2 * acc) ((a >>> k % 2) * b)
    rw [ht] at b3
    obtain ⟨r1, r2⟩ := mmR_spec (t := t) hp (by omega)
    rw [ht]
    obtain ⟨i1, i2⟩ := mm_spec hp hb a k _ r1
    refine ⟨i1, cg_trans i2 ?_⟩
    have e : cm acc (2 ^ (k + 1)) ^^^ cm (a % 2 ^ (k + 1)) b = cm t (2 ^ k) ^^^ cm (a % 2 ^ k) b := by
      rw [← ht, two, bit, cm_xor_left, mod_succ_bit, cm_xor_left, cm_shl_left, cm_pow_right k, cm_pow_right k, cm_pow_right (k + 1), ← two]
      rw [show (2 * acc) <<< k = acc <<< (k + 1) by rw [Nat.shiftLeft_eq, Nat.shiftLeft_eq, Nat.pow_succ]; rw [Nat.mul_comm 2 acc, Nat.mul_assoc, Nat.mul_comm 2]]
      rw [Nat.xor_assoc, Nat.xor_comm (cm (a % 2 ^ k) b)]
    rw [e]
    exact cg_xor (cg_cm r2 (cg_refl _ _)) (cg_refl _ _)
theorem mm_eq {d p a b : Nat} (hp : bl p = d + 1) (ha : bl a ≤ d) (hb : bl b ≤ d) : mm d p d 0 a b = rm (cm a b) p := by
  have h0 : bl 0 ≤ d := by rw [bl_zero]; omega
  obtain ⟨h1, h2⟩ := mm_spec hp hb a d 0 h0
  rw [cm_zero_left, Nat.zero_xor, Nat.mod_eq_of_lt (bl_lt.1 ha)] at h2
  exact (rm_unique (by omega) h2).symm
theorem sqs_eq {d p : Nat} (hp : bl p = d + 1) : ∀ (n x : Nat), bl x ≤ d → sqs d p n x = sqn x p n
  | 0, x, h => by rw [sqs, sqn, rm_small (by omega)]
  | n + 1, x, h => by
    have hp0 : p ≠ 0 := by rintro rfl; rw [bl_zero] at hp; omega
    have e := mm_eq hp h h
    have l := rm_lt (cm x x) hp0
    rw [sqs_succ, sqs_eq hp n _ (by rw [e]; omega), e]
    rw [sqn_pwr _ hp0, sqn_pwr _ hp0]
    have : rm (cm x x) p = pwr x p 2 := by
      rw [show (2 : Nat) = 1 + 1 from rfl, pwr_add x hp0, pwr_one x hp0, rm_cm _ _ hp0]
    rw [this, pwr_mul x hp0, Nat.pow_succ, Nat.mul_comm]
def RP : Nat := 115798716538066420455068828734077908777090750648323562404903972173143537152001
theorem bl_RP : bl RP = 257 := by decide +kernel
set_option maxRecDepth 100000 in
theorem RP_far : sqn 2 RP 256 = 2 := by
  rw [← sqs_eq (d := 256) bl_RP 256 2 (by decide +kernel)]
  decide +kernel
set_option maxRecDepth 100000 in
theorem RP_half : sqn 2 RP 128 = 26085483466146683437729584433416940748010083220905283300336438352164092185274 := by
  rw [← sqs_eq (d := 256) bl_RP 128 2 (by decide +kernel)]
  decide +kernel
theorem gd_one_of {a b s t : Nat} (h : cm s a ^^^ cm t b = 1) : gd a b = 1 := by
  have d : dv (gd a b) 1 := by
    rw [← h]; exact dv_xor (dv_mul (gd_dv_left a b) s) (dv_mul (gd_dv_right a b) t)
  exact dv_antisymm d (dv_one _)
set_option maxRecDepth 100000 in
theorem RP_part : gd (sqn 2 RP 128 ^^^ 2) RP = 1 := by
  rw [RP_half]
  exact gd_one_of (s := 95841287395213113800978365656531203746689852800771273869572845219438777930315) (t := 7904977278690462091150650901452089283527090215837152806590961252340231595017) (by decide +kernel)
end Go.Proofs.YteomkgcepiecjaaGreat.I
/- The rule of the generator: nothing parts it. -/
namespace Go.Proofs.YteomkgcepiecjaaGreat.I
open Go
set_option linter.unusedSimpArgs false
set_option linter.unusedVariables false
theorem cpw_mul (a n m : Nat) : cpw (cpw a n) m = cpw a (n * m) := by
  induction m with
  | zero => rfl
  | succ m ih => rw [cpw, ih, Nat.mul_succ, cpw_add]
theorem back_mul {q e : Nat} (h : cg q (cpw 2 (2 ^ e)) 2) : ∀ m, cg q (cpw 2 (2 ^ (e * m))) 2
  | 0 => by rw [Nat.mul_zero, Nat.pow_zero, cpw_one]; exact cg_refl _ _
  | m + 1 => by
    rw [Nat.mul_succ, Nat.pow_add, ← cpw_mul]
    exact cg_trans (cg_cpw (back_mul h m) _) h
theorem Irr.back_dvd {q n : Nat} (h : Irr q) (hn : cg q (cpw 2 (2 ^ n)) 2) : n % (bl q - 1) = 0 := by
  have hd := h.1
  refine Classical.byContradiction fun hr => ?_
  have e : n = (bl q - 1) * (n / (bl q - 1)) + n % (bl q - 1) := (Nat.div_add_mod _ _).symm
  have b := back_mul (h.back 2) (n / (bl q - 1))
  have c : cg q (cpw 2 (2 ^ n)) (cpw 2 (2 ^ (n % (bl q - 1)))) := by
    rw [e, Nat.pow_add, ← cpw_mul]
    rw [← e]
    exact cg_cpw b _
  have := h.least hr (cg_trans (cg_symm c) hn)
  have := Nat.mod_lt n (show 0 < bl q - 1 by omega)
  omega
theorem RP_irr : Irr RP := by
  refine Classical.byContradiction fun hc => ?_
  have hp := bl_RP
  have hp0 : RP ≠ 0 := by decide +kernel
  obtain ⟨q, hq, hd, hl⟩ := part_of (by omega) hc
  have hq2 := hq.1
  have to : ∀ n, cg q (sqn 2 RP n) (cpw 2 (2 ^ n)) := fun n => by
    rw [sqn_cpw 2 hp0]; exact dv_trans hd (cg_rm _ hp0)
  have f1 : cg q (cpw 2 (2 ^ 256)) 2 := by
    have := to 256; rw [RP_far] at this; exact cg_symm this
  have d1 := hq.back_dvd f1
  have d2 : 128 % (bl q - 1) = 0 := by
    have key : ∀ e, e < 129 → 256 % e = 0 → 128 % e = 0 := by decide
    exact key _ (by omega) d1
  have f2 : cg q (cpw 2 (2 ^ 128)) 2 := by
    have := back_mul (hq.back 2) (128 / (bl q - 1))
    rwa [Nat.mul_div_cancel' (Nat.dvd_of_mod_eq_zero d2)] at this
  have f3 : dv q (sqn 2 RP 128 ^^^ 2) := cg_trans (to 128) f2
  have := dv_gd f3 hd
  rw [RP_part] at this
  exact hq.not_one this
end Go.Proofs.YteomkgcepiecjaaGreat.I
/- Numbers that only 1 and they themselves part. -/
namespace Go.Proofs.YteomkgcepiecjaaGreat.I
open Go
set_option linter.unusedSimpArgs false
set_option linter.unusedVariables false
def Pri (r : Nat) : Prop := ∀ g, r ∣ g ∨ Nat.Coprime r g
def noPart (r B : Nat) : Bool := (List.range B).all fun d => decide (d < 2) || decide (r % d ≠ 0)
theorem pri_of {r B : Nat} (h0 : 0 < r) (hB : r < B * B) (h : ∀ d, 2 ≤ d → d < B → ¬ d ∣ r) : Pri r := by
  intro g
  have hd : Nat.gcd r g ∣ r := Nat.gcd_dvd_left _ _
  obtain ⟨e, he⟩ := hd
  have hg : Nat.gcd r g ∣ g := Nat.gcd_dvd_right _ _
  generalize hk : Nat.gcd r g = k at *
  rcases Nat.lt_or_ge k 2 with h1 | h1
  · right
    have : k ≠ 0 := by rintro rfl; rw [Nat.zero_mul] at he; omega
    show Nat.gcd r g = 1
    omega
  · left
    have hkB : B ≤ k := by
      rcases Nat.lt_or_ge k B with h2 | h2
      · exact absurd ⟨e, he⟩ (h k h1 h2)
      · exact h2
    have : e < 2 := by
      rcases Nat.lt_or_ge e 2 with h3 | h3
      · exact h3
      · have heB : e < B := by
          rcases Nat.lt_or_ge e B with h4 | h4
          · exact h4
          · have := Nat.mul_le_mul hkB h4; omega
        exact absurd ⟨k, by rw [Nat.mul_comm]; exact he⟩ (h e h3 heB)
    have e1 : e = 1 := by
      rcases Nat.lt_or_ge e 1 with h5 | h5
      · have : e = 0 := by omega
        subst this; omega
      · omega
    rw [e1, Nat.mul_one] at he
    rw [he]; exact hg
theorem pri_dec {r B : Nat} (h0 : 0 < r) (hB : r < B * B) (h : noPart r B = true) : Pri r := by
  refine pri_of h0 hB fun d h2 hd hp => ?_
  have := List.all_eq_true.1 h d (List.mem_range.2 hd)
  simp only [Bool.or_eq_true, decide_eq_true_eq] at this
  rcases this with e | e
  · omega
  · exact e (Nat.mod_eq_zero_of_dvd hp)
theorem Pri.dvd_of {r o M : Nat} (h : Pri r) (ho : o ∣ r * M) (hn : ¬ o ∣ M) : r ∣ o := by
  rcases h o with e | e
  · exact e
  · exact absurd (Nat.Coprime.dvd_of_dvd_mul_left e.symm ho) hn
def pwf (a n e : Nat) : Nat → Nat → Nat
  | 0, x => x
  | k + 1, x => match (x * x * (if e >>> k % 2 = 1 then a else 1)) % n with
    | 0 => pwf a n e k 0
    | m + 1 => pwf a n e k (m + 1)
theorem pwf_succ (a n e k x : Nat) : pwf a n e (k + 1) x = pwf a n e k ((x * x * (if e >>> k % 2 = 1 then a else 1)) % n) := by
  rw [pwf]; split <;> simp_all
theorem pwf_spec (a n e : Nat) : ∀ (k x : Nat), pwf a n e k x % n = x ^ 2 ^ k * a ^ (e % 2 ^ k) % n
  | 0, x => by rw [pwf, Nat.pow_zero, Nat.mod_one, Nat.pow_one, Nat.pow_zero, Nat.mul_one]
  | k + 1, x => by
    rw [pwf_succ, pwf_spec a n e k]
    rw [Nat.mul_mod, Nat.pow_mod, Nat.mod_mod, ← Nat.pow_mod, ← Nat.mul_mod]
    rw [mod_succ_add, Nat.pow_add a]
    have : x ^ 2 ^ (k + 1) = (x * x) ^ 2 ^ k := by
      rw [← Nat.pow_two, ← Nat.pow_mul, Nat.pow_succ, Nat.mul_comm]
    rw [this]
    have h2 : a ^ (2 ^ k * (e >>> k % 2)) = (if e >>> k % 2 = 1 then a else 1) ^ 2 ^ k := by
      rcases Nat.mod_two_eq_zero_or_one (e >>> k) with h | h <;> rw [h]
      · rw [if_neg (by omega), Nat.mul_zero, Nat.pow_zero, Nat.one_pow]
      · rw [if_pos rfl, Nat.mul_one]
    rw [h2, Nat.mul_pow, Nat.mul_assoc]
def P9 : Nat := 67280421310721
def One' (n k : Nat) : Prop := n ∣ 3 ^ k - 1
theorem three_pos (k : Nat) : 1 ≤ 3 ^ k := Nat.one_le_pow _ _ (by omega)
theorem One'.add {n a b : Nat} (h : One' n a) (g : One' n b) : One' n (a + b) := by
  obtain ⟨x, hx⟩ := h; obtain ⟨y, hy⟩ := g
  have h1 := three_pos a; have h2 := three_pos b
  have e1 : 3 ^ a = n * x + 1 := by omega
  have e2 : 3 ^ b = n * y + 1 := by omega
  refine ⟨n * x * y + x + y, ?_⟩
  rw [Nat.pow_add, e1, e2]
  have : (n * x + 1) * (n * y + 1) = n * (n * x * y + x + y) + 1 := by
    rw [Nat.add_mul, Nat.mul_add, Nat.mul_add, Nat.mul_add, Nat.one_mul, Nat.mul_one]
    rw [show n * x * (n * y) = n * (n * x * y) by rw [Nat.mul_assoc n x (n * y), Nat.mul_assoc n x y, Nat.mul_left_comm x n y]]
    rw [Nat.mul_add n]
    omega
  rw [this]; omega
theorem One'.mul {n a : Nat} (h : One' n a) : ∀ m, One' n (a * m)
  | 0 => by rw [Nat.mul_zero]; exact ⟨0, rfl⟩
  | m + 1 => by rw [Nat.mul_succ]; exact (h.mul m).add h
theorem One'.sub {n a b : Nat} (h : One' n (a + b)) (g : One' n a) : One' n b := by
  unfold One' at *
  have h1 := three_pos a; have h2 := three_pos b
  have e : 3 ^ (a + b) - 1 = (3 ^ a - 1) * 3 ^ b + (3 ^ b - 1) := by
    rw [Nat.pow_add, Nat.sub_mul, Nat.one_mul]
    have := Nat.le_mul_of_pos_left (3 ^ b) (show 0 < 3 ^ a by omega)
    omega
  rw [e] at h
  exact (Nat.dvd_add_right (Nat.dvd_mul_right_of_dvd g _)).1 h
theorem One'.gcd {n a b : Nat} (h : One' n a) (g : One' n b) : One' n (Nat.gcd a b) := by
  induction a, b using Nat.gcd.induction with
  | H0 b => rw [Nat.gcd_zero_left]; exact g
  | H1 a b ha ih =>
    rw [Nat.gcd_rec]
    refine ih ?_ h
    have e : a * (b / a) + b % a = b := Nat.div_add_mod b a
    exact One'.sub (a := a * (b / a)) (by rw [e]; exact g) (h.mul _)
theorem pwf_one {n e : Nat} {k : Nat} (hk : e < 2 ^ k) {v : Nat} (h : pwf 3 n e k 1 = v) : v % n = 3 ^ e % n := by
  have := pwf_spec 3 n e k 1
  rw [h, Nat.one_pow, Nat.one_mul, Nat.mod_eq_of_lt hk] at this
  exact this
theorem not_one_of {n e k : Nat} (hk : e < 2 ^ k) {v s t d : Nat} (h : pwf 3 n e k 1 = v) (hd : d ∣ n) (h2 : 2 ≤ d) (hc : Nat.gcd (v - 1) n = 1) (hv : 1 ≤ v) : ¬ One' d e := by
  intro ho
  have hm := pwf_one hk h
  have a1 : 3 ^ e % d = 1 % d := by
    obtain ⟨x, hx⟩ := ho
    have := three_pos e
    rw [show 3 ^ e = 1 + d * x by omega, Nat.add_mul_mod_self_left]
  have a2 : v % d = 1 % d := by
    rw [← a1, ← Nat.mod_mod_of_dvd v hd, hm, Nat.mod_mod_of_dvd _ hd]
  have a3 : d ∣ v - 1 := Nat.dvd_of_mod_eq_zero (Nat.sub_mod_eq_zero_of_mod_eq a2)
  have := Nat.dvd_gcd a3 hd
  rw [hc] at this
  have := Nat.le_of_dvd (by omega) this
  omega
theorem small_one {d N : Nat} (hd : 2 ≤ d) (hN : One' d N) (hl : d ≤ N) : ∃ k, 0 < k ∧ k < d ∧ One' d k := by
  refine Classical.byContradiction fun hc => ?_
  have cop : ∀ i, i ≤ N → 3 ^ i % d ≠ 0 := fun i hi e => by
    have h1 : d ∣ 3 ^ i := Nat.dvd_of_mod_eq_zero e
    have h2 : d ∣ 3 ^ N := by rw [show N = i + (N - i) by omega, Nat.pow_add]; exact Nat.dvd_mul_right_of_dvd h1 _
    have h3 := three_pos N
    have : d ∣ 1 := by
      have := Nat.dvd_sub h2 hN
      rwa [show 3 ^ N - (3 ^ N - 1) = 1 by omega] at this
    have := Nat.le_of_dvd (by omega) this
    omega
  have pm : ((List.range d).map fun i => 3 ^ i % d).Perm (List.range d) := by
    refine perm_of ?_ (fun y hy => ?_) (by simp)
    · rw [List.nodup_iff_pairwise_ne, List.pairwise_map]
      have : (List.range d).Pairwise (· < ·) := List.pairwise_lt_range
      refine List.Pairwise.imp_of_mem ?_ this
      intro i j hi hj hij e
      rw [List.mem_range] at hi hj
      refine hc ⟨j - i, by omega, by omega, ?_⟩
      have h1 : d ∣ 3 ^ j - 3 ^ i := Nat.dvd_of_mod_eq_zero (Nat.sub_mod_eq_zero_of_mod_eq (Eq.symm e))
      have h2 : 3 ^ j - 3 ^ i = (3 ^ (j - i) - 1) * 3 ^ i := by
        rw [Nat.sub_mul, Nat.one_mul, ← Nat.pow_add, show j - i + i = j by omega]
      rw [h2] at h1
      have h3 : d ∣ (3 ^ (j - i) - 1) * 3 ^ N := by
        rw [show N = i + (N - i) by omega, Nat.pow_add, ← Nat.mul_assoc]; exact Nat.dvd_mul_right_of_dvd h1 _
      obtain ⟨x, hx⟩ := hN
      have := three_pos N
      rw [show 3 ^ N = d * x + 1 by omega, Nat.mul_add, Nat.mul_one] at h3
      exact (Nat.dvd_add_right (Nat.dvd_mul_left_of_dvd (Nat.dvd_mul_right _ _) _)).1 h3
    · obtain ⟨i, hi, rfl⟩ := List.mem_map.1 hy
      rw [List.mem_range]; exact Nat.mod_lt _ (by omega)
  have : 0 ∈ List.range d := by rw [List.mem_range]; omega
  obtain ⟨i, hi, e⟩ := List.mem_map.1 (pm.mem_iff.2 this)
  rw [List.mem_range] at hi
  exact cop i (by omega) e
theorem pri_2998279 : Pri 2998279 := pri_dec (B := 1732) (by decide) (by decide) (by decide +kernel)
theorem pri_373 : Pri 373 := pri_dec (B := 20) (by decide) (by decide) (by decide +kernel)
theorem one_of {n e k : Nat} (hk : e < 2 ^ k) (h : pwf 3 n e k 1 = 1) : One' n e := by
  have := pwf_one hk h
  exact Nat.dvd_of_mod_eq_zero (Nat.sub_mod_eq_zero_of_mod_eq this.symm)
theorem One'.part {d n e : Nat} (h : One' n e) (hd : d ∣ n) : One' d e := Nat.dvd_trans hd h
theorem P9_pri : Pri P9 := by
  refine pri_of (B := 8202467) (by decide) (by decide) fun d h2 hd hp => ?_
  have hN : One' P9 67280421310720 := one_of (k := 46) (by decide) (by decide +kernel)
  have hNd : One' d 67280421310720 := hN.part hp
  obtain ⟨k, h0, hk, ho⟩ := small_one h2 hNd (by omega)
  have hg := ho.gcd hNd
  have gk : Nat.gcd k 67280421310720 ≤ k := Nat.le_of_dvd h0 (Nat.gcd_dvd_left _ _)
  have g0 : 0 < Nat.gcd k 67280421310720 := Nat.gcd_pos_of_pos_left _ h0
  have gd : Nat.gcd k 67280421310720 ∣ 67280421310720 := Nat.gcd_dvd_right _ _
  generalize Nat.gcd k 67280421310720 = g at *
  have a1 : 2998279 ∣ g := by
    refine pri_2998279.dvd_of (M := 22439680) (by exact gd) fun h => ?_
    obtain ⟨m, hm⟩ := h
    refine not_one_of (n := P9) (e := 22439680) (k := 25) (s := 0) (t := 0) (by decide) rfl hp h2 (by decide +kernel) (by decide +kernel) ?_
    rw [hm]; exact hg.mul m
  have a2 : 373 ∣ g := by
    refine pri_373.dvd_of (M := 180376464640) (by exact gd) fun h => ?_
    obtain ⟨m, hm⟩ := h
    refine not_one_of (n := P9) (e := 180376464640) (k := 38) (s := 0) (t := 0) (by decide) rfl hp h2 (by decide +kernel) (by decide +kernel) ?_
    rw [hm]; exact hg.mul m
  have a3 : 2998279 * 373 ∣ g := Nat.Coprime.mul_dvd_of_dvd_of_dvd (by decide +kernel) a1 a2
  have := Nat.le_of_dvd g0 a3
  omega
theorem pri_3 : Pri 3 := pri_dec (B := 3) (by decide) (by decide) (by decide +kernel)
theorem pri_5 : Pri 5 := pri_dec (B := 4) (by decide) (by decide) (by decide +kernel)
theorem pri_17 : Pri 17 := pri_dec (B := 6) (by decide) (by decide) (by decide +kernel)
theorem pri_257 : Pri 257 := pri_dec (B := 18) (by decide) (by decide) (by decide +kernel)
theorem pri_641 : Pri 641 := pri_dec (B := 27) (by decide) (by decide) (by decide +kernel)
theorem pri_65537 : Pri 65537 := pri_dec (B := 258) (by decide) (by decide) (by decide +kernel)
theorem pri_274177 : Pri 274177 := pri_dec (B := 525) (by decide) (by decide) (by decide +kernel)
theorem pri_6700417 : Pri 6700417 := pri_dec (B := 2590) (by decide) (by decide) (by decide +kernel)
end Go.Proofs.YteomkgcepiecjaaGreat.I
