/- Fields of polynomials: what nothing parts, Fermat, the test. -/
import Derived.Test.YtaojebdjkpdcdaaPwr
namespace Go.Proofs.Ytaojebdjkpdcdaa.I
open Go
set_option linter.unusedSimpArgs false
set_option linter.unusedVariables false

/-- Whether nothing parts a polynomial: the test. -/
def benF (p k : Nat) : Bool := (List.range k).all fun i => decide (bl (gd (sqn 2 p (i + 1) ^^^ 2) p) = 1)
def ben (p : Nat) : Bool := decide (2 ≤ bl p ∧ bl p ≤ 257) && benF p ((bl p - 1) / 2)
theorem benF_succ (p k : Nat) : benF p (k + 1) = (benF p k && decide (bl (gd (sqn 2 p (k + 1) ^^^ 2) p) = 1)) := by
  unfold benF; rw [List.range_succ, List.all_append]; simp
theorem benF_of {p k m : Nat} (h : benF p k = false) (hk : k ≤ m) : benF p m = false := by
  obtain ⟨d, rfl⟩ := Nat.exists_eq_add_of_le hk
  induction d with
  | zero => exact h
  | succ d ih => rw [← Nat.add_assoc, benF_succ, ih (by omega)]; rfl


/-- Nothing parts it. -/
def Irr (p : Nat) : Prop := 2 ≤ bl p ∧ ∀ q, dv q p → q = 1 ∨ q = p

theorem Irr.ne {p : Nat} (h : Irr p) : p ≠ 0 := by rintro rfl; have := h.1; rw [bl_zero] at this; omega
theorem Irr.not_one {p : Nat} (h : Irr p) : ¬ dv p 1 := fun d => by
  have := dv_bl d (by decide); have h1 := h.1; have : bl 1 = 1 := rfl; omega
theorem Irr.prime {p a b : Nat} (h : Irr p) (d : dv p (cm a b)) : dv p a ∨ dv p b := by
  rcases h.2 (gd p a) (gd_dv_left p a) with e | e
  · right
    obtain ⟨s, t, e'⟩ := gd_bezout p a
    rw [e] at e'
    have : b = cm (cm s p) b ^^^ cm (cm t a) b := by rw [← cm_xor_left, ← e', cm_one_left]
    rw [this]
    refine dv_xor ?_ ?_
    · rw [cm_comm s p, cm_assoc]; exact dv_mul_self' _ _
    · rw [cm_assoc]; exact dv_mul d t
  · left; rw [← e]; exact gd_dv_right p a
theorem Irr.cancel {p a x y : Nat} (h : Irr p) (ha : ¬ dv p a) (e : cg p (cm a x) (cm a y)) : cg p x y := by
  unfold cg at e ⊢
  rw [← cm_xor_right] at e
  exact (h.prime e).resolve_left ha

/-! ### exact powers and products -/
def cpw (a : Nat) : Nat → Nat
  | 0 => 1
  | n + 1 => cm (cpw a n) a
theorem pwr_cpw (a : Nat) {p : Nat} (hp : p ≠ 0) (n : Nat) : pwr a p n = rm (cpw a n) p := by
  induction n with
  | zero => rfl
  | succ n ih => rw [pwr_succ, ih, rm_cm_left _ _ hp]; rfl
theorem cpw_add (a n m : Nat) : cpw a (n + m) = cm (cpw a n) (cpw a m) := by
  induction m with
  | zero => exact (cm_one_right _).symm
  | succ m ih => rw [← Nat.add_assoc, cpw, ih, cm_assoc]; rfl
theorem cpw_one (a : Nat) : cpw a 1 = a := cm_one_left a
theorem cg_cpw {p a b : Nat} (h : cg p a b) (n : Nat) : cg p (cpw a n) (cpw b n) := by
  induction n with
  | zero => exact cg_refl _ _
  | succ n ih => exact cg_cm ih h

def cprod : List Nat → Nat
  | [] => 1
  | x :: l => cm x (cprod l)
theorem cprod_perm {l l' : List Nat} (h : l.Perm l') : cprod l = cprod l' := by
  induction h with
  | nil => rfl
  | cons x _ ih => rw [cprod, cprod, ih]
  | swap x y l => simp only [cprod]; exact cm_left_comm _ _ _
  | trans _ _ h1 h2 => exact h1.trans h2
theorem cprod_map {p : Nat} (hp : p ≠ 0) (a : Nat) (l : List Nat) : cg p (cprod (l.map fun x => rm (cm a x) p)) (cm (cpw a l.length) (cprod l)) := by
  induction l with
  | nil => show cg p 1 (cm 1 1); rw [cm_one_left]; exact cg_refl _ _
  | cons x l ih =>
    show cg p (cm (rm (cm a x) p) (cprod (l.map fun x => rm (cm a x) p))) (cm (cm (cpw a l.length) a) (cm x (cprod l)))
    have e : cm (cm (cpw a l.length) a) (cm x (cprod l)) = cm (cm a x) (cm (cpw a l.length) (cprod l)) := by
      rw [cm_assoc, cm_assoc, cm_left_comm a x, cm_left_comm a x, cm_left_comm (cpw a l.length), cm_left_comm (cpw a l.length)]
    rw [e]
    exact cg_cm (cg_rm _ hp) ih
theorem Irr.prod {p : Nat} (h : Irr p) {l : List Nat} (hl : ∀ x ∈ l, ¬ dv p x) : ¬ dv p (cprod l) := by
  induction l with
  | nil => exact h.not_one
  | cons x l ih =>
    intro d
    rcases h.prime d with d | d
    · exact hl x List.mem_cons_self d
    · exact ih (fun y hy => hl y (List.mem_cons_of_mem _ hy)) d
theorem perm_of {l : List Nat} : ∀ {l' : List Nat}, l.Nodup → (∀ x ∈ l, x ∈ l') → l'.length ≤ l.length → l.Perm l' := by
  induction l with
  | nil => intro l' _ _ h; have : l' = [] := List.eq_nil_of_length_eq_zero (by simpa using h); rw [this]
  | cons x t ih =>
    intro l' hn hm hl
    have hx := hm x List.mem_cons_self
    rw [List.nodup_cons] at hn
    refine (List.Perm.cons x (ih hn.2 (fun y hy => ?_) ?_)).trans (List.perm_cons_erase hx).symm
    · exact (List.mem_erase_of_ne (fun (e : y = x) => hn.1 (by rw [← e]; exact hy))).2 (hm y (List.mem_cons_of_mem _ hy))
    · rw [List.length_erase_of_mem hx]; simp at hl; omega
theorem dv_small {p x : Nat} (h : dv p x) (hx : bl x < bl p) : x = 0 := by
  rcases Decidable.em (x = 0) with e | e
  · exact e
  · have := dv_bl h e; omega
theorem cg_small {p x y : Nat} (h : cg p x y) (hx : bl x < bl p) (hy : bl y < bl p) : x = y := by
  have hp : p ≠ 0 := by rintro rfl; rw [bl_zero] at hx; omega
  have := (rm_eq_iff hp).2 h
  rwa [rm_small hx, rm_small hy] at this

/-- Fermat. -/
theorem Irr.fermat {p : Nat} (h : Irr p) {a : Nat} (ha : ¬ dv p a) : cg p (cpw a (2 ^ (bl p - 1) - 1)) 1 := by
  have hp := h.ne
  have hb := h.1
  obtain ⟨L, hL⟩ : ∃ L, List.range' 1 (2 ^ (bl p - 1) - 1) = L := ⟨_, rfl⟩
  have mem : ∀ x, x ∈ L ↔ x ≠ 0 ∧ bl x < bl p := fun x => by
    have h0 : 0 < 2 ^ (bl p - 1) := Nat.two_pow_pos _
    have h1 : bl x ≤ bl p - 1 ↔ x < 2 ^ (bl p - 1) := bl_lt
    rw [← hL, List.mem_range'_1]; omega
  have len : L.length = 2 ^ (bl p - 1) - 1 := by rw [← hL]; simp
  have nd : L.Nodup := by rw [← hL]; exact List.nodup_range'
  have hLp : ∀ x ∈ L, ¬ dv p x := fun x hx d => ((mem x).1 hx).1 (dv_small d ((mem x).1 hx).2)
  have pm : (L.map fun x => rm (cm a x) p).Perm L := by
    refine perm_of ?_ (fun y hy => ?_) (by simp)
    · rw [List.nodup_iff_pairwise_ne, List.pairwise_map]
      refine List.Pairwise.imp_of_mem ?_ (List.nodup_iff_pairwise_ne.1 nd)
      intro x y hx hy hne e
      exact hne (cg_small (h.cancel ha ((rm_eq_iff hp).1 e)) ((mem x).1 hx).2 ((mem y).1 hy).2)
    · obtain ⟨x, hx, rfl⟩ := List.mem_map.1 hy
      refine (mem _).2 ⟨fun e => ?_, rm_lt _ hp⟩
      rcases h.prime ((rm_zero_iff hp).1 e) with d | d
      · exact ha d
      · exact hLp x hx d
  have c := cprod_map hp a L
  rw [cprod_perm pm, len] at c
  refine h.cancel (h.prod hLp) ?_
  rw [cm_one_right, cm_comm]
  exact cg_symm c

/-! ### Frobenius -/
theorem cpw_two_pow_succ (a i : Nat) : cpw a (2 ^ (i + 1)) = cm (cpw a (2 ^ i)) (cpw a (2 ^ i)) := by
  rw [← cpw_add, Nat.pow_succ]; congr 1; omega
theorem frob_xor (a b i : Nat) : cpw (a ^^^ b) (2 ^ i) = cpw a (2 ^ i) ^^^ cpw b (2 ^ i) := by
  induction i with
  | zero => simp only [Nat.pow_zero, cpw_one]
  | succ i ih => rw [cpw_two_pow_succ, ih, cm_sq_xor, ← cpw_two_pow_succ, ← cpw_two_pow_succ]
theorem frob_cm (a b n : Nat) : cpw (cm a b) n = cm (cpw a n) (cpw b n) := by
  induction n with
  | zero => exact (cm_one_left 1).symm
  | succ n ih =>
    rw [cpw, ih, cpw, cpw, cm_assoc, cm_assoc, cm_left_comm (cpw b n)]
theorem cpw_zero {n : Nat} (h : n ≠ 0) : cpw 0 n = 0 := by
  cases n with
  | zero => omega
  | succ n => exact cm_zero_right _
theorem cpw_unit (n : Nat) : cpw 1 n = 1 := by
  induction n with
  | zero => rfl
  | succ n ih => rw [cpw, ih, cm_one_left]
theorem nat_split (a : Nat) : a = cm 2 (a / 2) ^^^ a % 2 := by
  have e : cm 2 (a / 2) = 2 * (a / 2) := by rw [show (2 : Nat) = 2 * 1 from rfl, cm_two_left, cm_one_left]
  rw [e]
  rcases Nat.mod_two_eq_zero_or_one a with h | h <;> rw [h]
  · rw [Nat.xor_zero]; omega
  · have := cm_odd_left (a / 2) 1
    rw [cm_one_right, cm_one_right, Nat.xor_comm] at this
    rw [← this]; omega
/-- If x comes back, all do. -/
theorem frob_all {p i : Nat} (h : cg p (cpw 2 (2 ^ i)) 2) (a : Nat) : cg p (cpw a (2 ^ i)) a := by
  induction a using Nat.strongRecOn with
  | _ a ih =>
    by_cases h0 : a = 0
    · subst h0; rw [cpw_zero (Nat.pos_iff_ne_zero.1 (Nat.two_pow_pos i))]; exact cg_refl _ _
    · have e := nat_split a
      have c1 : cg p (cpw (a % 2) (2 ^ i)) (a % 2) := by
        rcases Nat.mod_two_eq_zero_or_one a with h | h <;> rw [h]
        · rw [cpw_zero (Nat.pos_iff_ne_zero.1 (Nat.two_pow_pos i))]; exact cg_refl _ _
        · rw [cpw_unit]; exact cg_refl _ _
      have c2 := cg_xor (cg_cm h (ih (a / 2) (by omega))) c1
      rw [← frob_cm, ← frob_xor, ← e] at c2
      exact c2
/-- x comes back after the degree of what nothing parts. -/
theorem Irr.back {q : Nat} (h : Irr q) (a : Nat) : cg q (cpw a (2 ^ (bl q - 1))) a := by
  have h0 : 0 < 2 ^ (bl q - 1) := Nat.two_pow_pos _
  rcases Classical.em (dv q a) with d | d
  · have e : cg q a 0 := by unfold cg; rwa [Nat.xor_zero]
    refine cg_trans (cg_cpw e _) ?_
    rw [cpw_zero (by omega)]
    exact cg_symm e
  · have c := cg_cm (h.fermat d) (cg_refl q a)
    rw [cm_one_left] at c
    have e : cm (cpw a (2 ^ (bl q - 1) - 1)) a = cpw a (2 ^ (bl q - 1)) := by
      show cpw a (2 ^ (bl q - 1) - 1 + 1) = _
      congr 1; omega
    rwa [e] at c

/-! ### roots -/
/-- A polynomial of polynomials, the lowest part first, at a place. -/
def ev (y : Nat) : List Nat → Nat
  | [] => 0
  | c :: cs => c ^^^ cm y (ev y cs)
/-- What is left when it is parted by y - r. -/
def qt (r : Nat) : List Nat → List Nat
  | [] => []
  | [_] => []
  | _ :: d :: cs => ev r (d :: cs) :: qt r (d :: cs)
def mon : List Nat → Prop
  | [] => False
  | [c] => c = 1
  | _ :: d :: cs => mon (d :: cs)
theorem qt_len (r : Nat) : ∀ cs : List Nat, (qt r cs).length = cs.length - 1
  | [] => rfl
  | [_] => rfl
  | c :: d :: cs => by show (qt r (d :: cs)).length + 1 = _; rw [qt_len r (d :: cs)]; simp
theorem qt_mon (r : Nat) : ∀ c cs, cs ≠ [] → mon (c :: cs) → mon (qt r (c :: cs))
  | c, [], h, _ => absurd rfl h
  | c, [d], _, h => by
    show d ^^^ cm r 0 = 1
    rw [cm_zero_right, Nat.xor_zero]; exact h
  | c, d :: e :: cs, _, h => by
    have ih := qt_mon r d (e :: cs) (by simp) h
    show mon (ev r (d :: e :: cs) :: ev r (e :: cs) :: qt r (e :: cs))
    exact ih
theorem ev_qt (y r : Nat) : ∀ cs : List Nat, ev y cs ^^^ ev r cs = cm (y ^^^ r) (ev y (qt r cs))
  | [] => by show 0 ^^^ 0 = cm _ 0; rw [cm_zero_right]; rfl
  | [c] => by
    show (c ^^^ cm y 0) ^^^ (c ^^^ cm r 0) = cm _ 0
    simp only [cm_zero_right, Nat.xor_zero, Nat.xor_self]
  | c :: d :: cs => by
    have ih := ev_qt y r (d :: cs)
    show (c ^^^ cm y (ev y (d :: cs))) ^^^ (c ^^^ cm r (ev r (d :: cs))) = cm (y ^^^ r) (ev r (d :: cs) ^^^ cm y (ev y (qt r (d :: cs))))
    rw [cm_xor_right, cm_left_comm, ← ih, cm_xor_right, cm_xor_left]
    generalize cm y (ev y (d :: cs)) = p; generalize cm r (ev r (d :: cs)) = q; generalize cm y (ev r (d :: cs)) = s
    apply Nat.eq_of_testBit_eq; intro i
    simp only [Nat.testBit_xor]
    cases c.testBit i <;> cases p.testBit i <;> cases q.testBit i <;> cases s.testBit i <;> rfl
/-- No more roots than its degree. -/
theorem Irr.roots {p : Nat} (h : Irr p) : ∀ (n : Nat) (cs : List Nat), cs.length = n + 1 → mon cs → ∀ rs : List Nat, rs.Pairwise (fun a b => ¬ cg p a b) → (∀ r ∈ rs, dv p (ev r cs)) → rs.length ≤ n
  | _, _, _, _, [], _, _ => Nat.zero_le _
  | 0, [c], _, hm, r :: rs, _, hr => by
    have := hr r List.mem_cons_self
    obtain rfl : c = 1 := hm
    rw [show ev r [1] = 1 from by show 1 ^^^ cm r 0 = 1; rw [cm_zero_right]; rfl] at this
    exact absurd this h.not_one
  | n + 1, [c], hl, _, _ :: _, _, _ => by simp at hl
  | 0, c :: d :: cs, hl, _, _ :: _, _, _ => by simp at hl
  | n + 1, c :: d :: cs, hl, hm, r :: rs, hp, hr => by
    rw [List.pairwise_cons] at hp
    refine Nat.succ_le_succ (h.roots n (qt r (c :: d :: cs)) (by rw [qt_len]; simp at hl ⊢; omega) (qt_mon r _ _ (by simp) hm) rs hp.2 fun x hx => ?_)
    have e := ev_qt x r (c :: d :: cs)
    have d1 := dv_xor (hr x (List.mem_cons_of_mem _ hx)) (hr r List.mem_cons_self)
    rw [e] at d1
    refine (h.prime d1).resolve_left fun d2 => hp.1 x hx (cg_symm d2)
theorem ev_pow (y m : Nat) : ev y (List.replicate m 0 ++ [1]) = cpw y m := by
  induction m with
  | zero => show 1 ^^^ cm y 0 = 1; rw [cm_zero_right]; rfl
  | succ m ih =>
    rw [List.replicate_succ, List.cons_append]
    show 0 ^^^ cm y (ev y (List.replicate m 0 ++ [1])) = cm (cpw y m) y
    rw [ih, Nat.zero_xor, cm_comm]
theorem mon_pow : ∀ m, mon (List.replicate m 0 ++ [1])
  | 0 => rfl
  | 1 => rfl
  | m + 2 => mon_pow (m + 1)
/-- What all come back after is no less than the degree. -/
theorem Irr.least {p i : Nat} (h : Irr p) (hi : i ≠ 0) (hb : cg p (cpw 2 (2 ^ i)) 2) : bl p - 1 ≤ i := by
  have h2 : 2 ≤ 2 ^ i := by
    obtain ⟨j, rfl⟩ := Nat.exists_eq_succ_of_ne_zero hi
    rw [Nat.pow_succ]; have := Nat.two_pow_pos j; omega
  have r := h.roots (2 ^ i) (0 :: 1 :: (List.replicate (2 ^ i - 2) 0 ++ [1])) (by simp; omega) (by
    have := mon_pow (2 ^ i - 2)
    cases e : List.replicate (2 ^ i - 2) 0 ++ [1] with
    | nil => simp at e
    | cons c cs => rw [e] at this; exact this) (List.range (2 ^ (bl p - 1))) (by
      refine List.Pairwise.imp_of_mem ?_ (List.nodup_iff_pairwise_ne.1 List.nodup_range)
      intro x y hx hy hne e
      have hp := h.1
      have b : ∀ z, z ∈ List.range (2 ^ (bl p - 1)) → bl z < bl p := fun z hz => by
        have := List.mem_range.1 hz
        have : bl z ≤ bl p - 1 := bl_lt.2 this
        omega
      exact hne (cg_small e (b x hx) (b y hy))) (fun x _ => by
        show dv p (0 ^^^ cm x (1 ^^^ cm x (ev x (List.replicate (2 ^ i - 2) 0 ++ [1]))))
        rw [ev_pow, Nat.zero_xor, cm_xor_right, cm_one_right]
        have e : cm x (cm x (cpw x (2 ^ i - 2))) = cpw x (2 ^ i) := by
          rw [cm_comm x (cpw _ _), cm_comm]
          show cpw x (2 ^ i - 2 + 1 + 1) = _
          congr 1; omega
        rw [e]
        exact cg_symm (frob_all hb x))
  rw [List.length_range] at r
  exact (Nat.pow_le_pow_iff_right (by omega)).1 r

/-! ### the test -/
/-- What is not such has a least part. -/
theorem part_of {p : Nat} (hp : 2 ≤ bl p) (h : ¬ Irr p) : ∃ q, Irr q ∧ dv q p ∧ 2 * (bl q - 1) ≤ bl p - 1 := by
  have hp0 : p ≠ 0 := by rintro rfl; rw [bl_zero] at hp; omega
  have ex : ∃ q, q ≠ 1 ∧ q ≠ p ∧ dv q p := by
    refine Classical.byContradiction fun hc => h ⟨hp, fun q hq => ?_⟩
    refine Classical.byContradiction fun h' => hc ⟨q, fun e => h' (.inl e), fun e => h' (.inr e), hq⟩
  have least : ∃ q, (q ≠ 1 ∧ q ≠ p ∧ dv q p) ∧ ∀ q', bl q' < bl q → ¬ (q' ≠ 1 ∧ q' ≠ p ∧ dv q' p) := by
    obtain ⟨q, hq⟩ := ex
    obtain ⟨n, hn⟩ : ∃ n, bl q = n := ⟨_, rfl⟩
    induction n using Nat.strongRecOn generalizing q with
    | _ n ih =>
      rcases Classical.em (∃ q', bl q' < bl q ∧ (q' ≠ 1 ∧ q' ≠ p ∧ dv q' p)) with hc | hc
      · obtain ⟨q', h1, h2⟩ := hc; exact ih (bl q') (by omega) q' h2 rfl
      · exact ⟨q, hq, fun q' h1 h2 => hc ⟨q', h1, h2⟩⟩
  obtain ⟨q, ⟨h1, h2, h3⟩, h4⟩ := least
  have hq0 : q ≠ 0 := by rintro rfl; exact hp0 (dv_of_zero h3)
  have hb : ∀ z, z ≠ 0 → z ≠ 1 → 2 ≤ bl z := fun z z0 z1 => by
    rcases Nat.lt_or_ge (bl z) 2 with h | h
    · have : z < 2 ^ 1 := bl_lt.1 (by omega)
      omega
    · exact h
  have hb0 : ∀ z, z ≠ 0 → 0 < bl z := fun z hz => bl_pos.2 hz
  refine ⟨q, ⟨hb q hq0 h1, fun d hd => ?_⟩, h3, ?_⟩
  · rcases Decidable.em (d = 1) with e1 | e1
    · exact .inl e1
    refine .inr (Classical.byContradiction fun e => ?_)
    obtain ⟨k, hk⟩ := hd
    have hd0 : d ≠ 0 := by rintro rfl; rw [cm_zero_right] at hk; exact hq0 hk
    have hk0 : k ≠ 0 := by rintro rfl; exact hq0 hk
    have hk1 : k ≠ 1 := by rintro rfl; rw [cm_one_left] at hk; exact e hk.symm
    have hbl := bl_cm hk0 hd0
    rw [← hk] at hbl
    have := hb k hk0 hk1
    refine h4 d (by omega) ⟨e1, ?_, dv_trans ⟨k, hk⟩ h3⟩
    rintro rfl
    have := dv_bl h3 hp0
    omega
  · obtain ⟨k, hk⟩ := h3
    have hk0 : k ≠ 0 := by rintro rfl; exact hp0 hk
    have hk1 : k ≠ 1 := by rintro rfl; rw [cm_one_left] at hk; exact h2 hk.symm
    have hbl := bl_cm hk0 hq0
    rw [← hk] at hbl
    have hq2 := hb q hq0 h1
    have hle : bl q ≤ bl k := by
      rcases Nat.lt_or_ge (bl k) (bl q) with h' | h'
      · refine absurd ⟨hk1, ?_, ⟨q, by rw [cm_comm]; exact hk⟩⟩ (h4 k h')
        rintro rfl
        omega
      · exact h'
    omega

theorem sqn_cpw (a : Nat) {p : Nat} (hp : p ≠ 0) (i : Nat) : sqn a p i = rm (cpw a (2 ^ i)) p := by rw [sqn_pwr a hp, pwr_cpw a hp]
theorem bl_one {g : Nat} (h : bl g = 1) : g = 1 := by
  have h1 : g < 2 ^ 1 := bl_lt.1 (by omega)
  have : g ≠ 0 := by rintro rfl; rw [bl_zero] at h; omega
  omega
/-- The test tells it. -/
theorem benF_irr {p : Nat} (hp : 2 ≤ bl p) : benF p ((bl p - 1) / 2) = true ↔ Irr p := by
  have hp0 : p ≠ 0 := by rintro rfl; rw [bl_zero] at hp; omega
  have all : benF p ((bl p - 1) / 2) = true ↔ ∀ i, i < (bl p - 1) / 2 → bl (gd (sqn 2 p (i + 1) ^^^ 2) p) = 1 := by
    unfold benF; simp [List.all_eq_true]
  rw [all]
  have cgs : ∀ q i, dv q p → cg q (sqn 2 p i ^^^ 2) (cpw 2 (2 ^ i) ^^^ 2) := fun q i hq => by
    rw [sqn_cpw 2 hp0]
    refine cg_xor ?_ (cg_refl _ _)
    exact dv_trans hq (cg_rm (cpw 2 (2 ^ i)) hp0)
  constructor
  · intro h
    refine Classical.byContradiction fun hc => ?_
    obtain ⟨q, hq, hd, hl⟩ := part_of hp hc
    have hq2 := hq.1
    have := h (bl q - 2) (by omega)
    have e : bl q - 2 + 1 = bl q - 1 := by omega
    rw [e] at this
    have h1 : dv q (sqn 2 p (bl q - 1) ^^^ 2) := by
      have c := cgs q (bl q - 1) hd
      have b := hq.back 2
      unfold cg at c b
      exact (dv_xor_iff b).1 (by rw [Nat.xor_comm]; exact c)
    have h2 := dv_gd h1 hd
    rw [bl_one this] at h2
    exact hq.not_one h2
  · intro h i hi
    rcases h.2 _ (gd_dv_right (sqn 2 p (i + 1) ^^^ 2) p) with e | e
    · rw [e]; rfl
    · exfalso
      have d := gd_dv_left (sqn 2 p (i + 1) ^^^ 2) p
      rw [e] at d
      have c := cgs p (i + 1) (dv_refl p)
      unfold cg at c
      have := h.least (i := i + 1) (by omega) ((dv_xor_iff d).1 c)
      omega
theorem ben_irr {p : Nat} : ben p = true ↔ Irr p ∧ bl p ≤ 257 := by
  unfold ben
  rw [Bool.and_eq_true, decide_eq_true_eq]
  constructor
  · rintro ⟨⟨h1, h2⟩, h3⟩; exact ⟨(benF_irr h1).1 h3, h2⟩
  · rintro ⟨h1, h2⟩; exact ⟨⟨h1.1, h2⟩, (benF_irr h1.1).2 h1⟩
end Go.Proofs.Ytaojebdjkpdcdaa.I
