/- The operators on numbers: the ideal one tells what the real one does. -/
import Derived.Test.YtaojebdjkpdcdaaRel
import Derived.Laws.Cover3
namespace Go.Proofs.Ytaojebdjkpdcdaa.I
open Go

theorem wrap_ok {x : Int} (h : i64ok x) : IntKind.i64.wrap x = x := by
  obtain ⟨h1, h2⟩ := h
  rw [IntKind.wrap_i64]; omega

theorem wrap_u {k : IntKind} (hk : k.signed = false) (x : Int) : k.wrap x = x % (2 ^ k.bits : Int) := by
  simp [IntKind.wrap, hk]

theorem wrap_nat {k : IntKind} (hk : k.signed = false) (x : Nat) : k.wrap x = ((x % 2 ^ k.bits : Nat) : Int) := by
  rw [wrap_u hk]; norm_cast

theorem wrap_small {k : IntKind} (hk : k.signed = false) {x : Nat} (h : x < 2 ^ k.bits) : k.wrap x = (x : Int) := by
  rw [wrap_nat hk, Nat.mod_eq_of_lt h]

theorem pw_pos (k : IntKind) : 0 < pw k := by unfold pw; exact Nat.pow_pos (by omega)

theorem wrap_sub {k : IntKind} (hk : k.signed = false) {x y : Nat} (hy : y < 2 ^ k.bits) : k.wrap ((x : Int) - y) = (((x + pw k - y) % pw k : Nat) : Int) := by
  rw [wrap_u hk]
  have e : ((x + pw k - y : Nat) : Int) = (x : Int) - y + (2 ^ k.bits : Int) := by
    have : y ≤ x + pw k := by unfold pw; omega
    rw [Int.ofNat_sub this]; unfold pw; push_cast; omega
  have e2 : (((x + pw k - y) % pw k : Nat) : Int) = ((x + pw k - y : Nat) : Int) % (2 ^ k.bits : Int) := by
    unfold pw; push_cast; rfl
  rw [e2, e, Int.add_emod_right]

theorem ofInt_nat (n x : Nat) : BitVec.ofInt n (x : Int) = BitVec.ofNat n x := by
  apply BitVec.eq_of_toNat_eq
  simp only [BitVec.toNat_ofInt, BitVec.toNat_ofNat]
  norm_cast

theorem and_lt {n x y : Nat} (h : x < 2 ^ n) : x &&& y < 2 ^ n := Nat.lt_of_le_of_lt Nat.and_le_left h

theorem shl_eq (k : IntKind) (a s : Nat) : (a * 2 ^ min s k.bits) % 2 ^ k.bits = (a <<< s) % pw k := by
  unfold pw
  rw [Nat.shiftLeft_eq]
  by_cases h : s ≤ k.bits
  · rw [Nat.min_eq_left h]
  · rw [Nat.min_eq_right (by omega)]
    have e : 2 ^ s = 2 ^ k.bits * 2 ^ (s - k.bits) := by rw [← Nat.pow_add]; congr 1; omega
    rw [e, ← Nat.mul_assoc, Nat.mul_mod_left, Nat.mul_comm a, Nat.mul_assoc, Nat.mul_mod_right]

theorem shr_eq {k : IntKind} {a : Nat} (ha : a < 2 ^ k.bits) (s : Nat) : a / 2 ^ min s k.bits = a >>> s := by
  rw [Nat.shiftRight_eq_div_pow]
  by_cases h : s ≤ k.bits
  · rw [Nat.min_eq_left h]
  · rw [Nat.min_eq_right (by omega), Nat.div_eq_of_lt ha, Nat.div_eq_of_lt]
    exact Nat.lt_of_lt_of_le ha (Nat.pow_le_pow_right (by omega) (by omega))

theorem shl_real {k : IntKind} (hk : k.signed = false) (a s : Nat) : k.wrap ((a : Int) * 2 ^ min s k.bits) = (((a <<< s) % pw k : Nat) : Int) := by
  rw [← shl_eq, ← wrap_nat hk]; push_cast; rfl

theorem shr_real {k : IntKind} {a : Nat} (ha : a < 2 ^ k.bits) (s : Nat) : (a : Int).fdiv (2 ^ min s k.bits) = ((a >>> s : Nat) : Int) := by
  rw [← shr_eq ha, Int.fdiv_eq_ediv_of_nonneg _ (Int.pow_nonneg (by omega))]; push_cast; rfl

theorem bits_real {k : IntKind} (hk : k.signed = false) {a b : Nat} (ha : a < 2 ^ k.bits) (hb : b < 2 ^ k.bits) (op : BinOp) (r : Nat) (P : Program) (w : World)
    (h : op = .and ∧ r = a &&& b ∨ op = .or ∧ r = a ||| b ∨ op = .xor ∧ r = a ^^^ b) : (Op.intBits op k a b).run P w = .ok (.int k r) w ∧ r < 2 ^ k.bits := by
  have hr : r < 2 ^ k.bits := by
    rcases h with ⟨_, rfl⟩ | ⟨_, rfl⟩ | ⟨_, rfl⟩
    · exact and_lt ha
    · exact Nat.or_lt_two_pow ha hb
    · exact Nat.xor_lt_two_pow ha hb
  refine ⟨?_, hr⟩
  rcases h with ⟨rfl, rfl⟩ | ⟨rfl, rfl⟩ | ⟨rfl, rfl⟩ <;>
    simp [Op.intBits, BitVec.toNat_and, BitVec.toNat_or, BitVec.toNat_xor, BitVec.toNat_ofNat, Nat.mod_eq_of_lt ha, Nat.mod_eq_of_lt hb, wrap_small hk hr]

theorem beq_int (a b : Nat) : ((a : Int) == (b : Int)) = decide (a = b) := by
  rw [Bool.eq_iff_iff, beq_iff_eq, decide_eq_true_iff]; exact Int.ofNat_inj

theorem lt_pw {k : IntKind} (x : Nat) : x % pw k < 2 ^ k.bits := Nat.mod_lt _ (pw_pos k)

theorem bin_sound {P : Program} {X : Lay} {op : BinOp} {x y : V} {K : V → Prop} {v v' : Value} (t : TypeId) (tk : TK) (ht : ∃ d, P.underlying t = some d ∧ tk.fits P d) (h : @bin op tk x y ⟨K⟩) (hx : Rep X v x) (hy : Rep X v' y) :
    ∃ r u, K r ∧ Rep X u r ∧ (binOp op t v v').run P X.w = .ok u X.w ∧ v ≠ .nilIface ∧ (∀ cs, v ≠ .agg cs) := by
  unfold bin at h
  split at h <;> first | exact h.elim | skip
  all_goals (simp only at h)
  all_goals (cases hx <;> cases hy)
  case h_1 a b ha hb => exact ⟨_, _, h.2, .z _ h.1, by simp [binOp, Op.intArith, wrap_ok h.1], by simp, by simp⟩
  case h_2 a b ha hb => exact ⟨_, _, h.2, .z _ h.1, by simp [binOp, Op.intArith, wrap_ok h.1], by simp, by simp⟩
  case h_3 a b ha hb => exact ⟨_, _, h.2, .z _ h.1, by simp [binOp, Op.intArith, wrap_ok h.1], by simp, by simp⟩
  case h_4 a b ha hb =>
    have hr : i64ok (a / b) := by
      have h1 := Int.ediv_le_self b h.1.1
      have h2 := Int.ediv_nonneg h.1.1 (Int.le_of_lt h.1.2)
      unfold i64ok at ha ⊢; omega
    refine ⟨_, _, h.2, .z _ hr, ?_, by simp, by simp⟩
    have hb0 : b ≠ 0 := by omega
    simp [binOp, Op.intDiv, hb0, Int.tdiv_eq_ediv_of_nonneg h.1.1, wrap_ok hr]
  case h_5 a b ha hb =>
    have hr : i64ok (a % b) := by
      have h1 := Int.emod_lt_of_pos a h.1.2
      have h2 := Int.emod_nonneg a (show b ≠ 0 by omega)
      unfold i64ok at hb ⊢; omega
    refine ⟨_, _, h.2, .z _ hr, ?_, by simp, by simp⟩
    have hb0 : b ≠ 0 := by omega
    simp [binOp, Op.intDiv, hb0, Int.tmod_eq_emod_of_nonneg h.1.1]
  case h_6 a b ha hb => exact ⟨_, _, h, .b _, by simp [binOp, Op.intCmp]; rfl, by simp, by simp⟩
  case h_7 a b ha hb => exact ⟨_, _, h, .b _, by simp [binOp, Op.intCmp, bne]; rfl, by simp, by simp⟩
  case h_8 a b ha hb => exact ⟨_, _, h, .b _, by simp [binOp, Op.intCmp], by simp, by simp⟩
  case h_9 a b ha hb => exact ⟨_, _, h, .b _, by simp [binOp, Op.intCmp], by simp, by simp⟩
  case h_10 a b ha hb => exact ⟨_, _, h, .b _, by simp [binOp, Op.intCmp], by simp, by simp⟩
  case h_11 a b ha hb => exact ⟨_, _, h, .b _, by simp [binOp, Op.intCmp], by simp, by simp⟩
  case h_12 k a k' b hk ha hk' hb =>
    obtain ⟨rfl, h⟩ := h
    exact ⟨_, _, h, .n k _ hk (lt_pw _), by simp [binOp, Op.intArith, ← Int.natCast_add, wrap_nat hk, pw], by simp, by simp⟩
  case h_13 k a k' b hk ha hk' hb =>
    obtain ⟨rfl, h⟩ := h
    exact ⟨_, _, h, .n k _ hk (lt_pw _), by simp [binOp, Op.intArith, wrap_sub hk hb], by simp, by simp⟩
  case h_14 k a k' b hk ha hk' hb =>
    obtain ⟨rfl, h⟩ := h
    exact ⟨_, _, h, .n k _ hk (lt_pw _), by simp [binOp, Op.intArith, ← Int.natCast_mul, wrap_nat hk, pw], by simp, by simp⟩
  case h_15 k a k' b hk ha hk' hb =>
    obtain ⟨rfl, hb0, h⟩ := h
    have hr : a / b < 2 ^ k.bits := Nat.lt_of_le_of_lt (Nat.div_le_self _ _) ha
    refine ⟨_, _, h, .n k _ hk hr, ?_, by simp, by simp⟩
    have e : (a : Int).tdiv b = ((a / b : Nat) : Int) := rfl
    have e3 : k.wrap ((a : Int) / b) = (a : Int) / b := by have := wrap_small hk hr; push_cast at this; exact this
    simp [binOp, Op.intDiv, hb0, e3]
  case h_16 k a k' b hk ha hk' hb =>
    obtain ⟨rfl, hb0, h⟩ := h
    have hr : a % b < 2 ^ k.bits := Nat.lt_of_le_of_lt (Nat.mod_le _ _) ha
    refine ⟨_, _, h, .n k _ hk hr, ?_, by simp, by simp⟩
    have e : (a : Int).tmod b = ((a % b : Nat) : Int) := rfl
    simp [binOp, Op.intDiv, hb0, e]
  case h_17 k a k' b hk ha hk' hb =>
    obtain ⟨rfl, h⟩ := h
    have e := bits_real hk ha hb .and _ P X.w (.inl ⟨rfl, rfl⟩)
    exact ⟨_, _, h, .n k _ hk e.2, by simp [binOp, e.1], by simp, by simp⟩
  case h_18 k a k' b hk ha hk' hb =>
    obtain ⟨rfl, h⟩ := h
    have e := bits_real hk ha hb .or _ P X.w (.inr (.inl ⟨rfl, rfl⟩))
    exact ⟨_, _, h, .n k _ hk e.2, by simp [binOp, e.1], by simp, by simp⟩
  case h_19 k a k' b hk ha hk' hb =>
    obtain ⟨rfl, h⟩ := h
    have e := bits_real hk ha hb .xor _ P X.w (.inr (.inr ⟨rfl, rfl⟩))
    exact ⟨_, _, h, .n k _ hk e.2, by simp [binOp, e.1], by simp, by simp⟩
  case h_20 k a k' b hk ha hk' hb =>
    obtain ⟨rfl, h⟩ := h
    exact ⟨_, _, h, .b _, by simp [binOp, Op.intCmp, beq_int], by simp, by simp⟩
  case h_21 k a k' b hk ha hk' hb =>
    obtain ⟨rfl, h⟩ := h
    exact ⟨_, _, h, .b _, by simp [binOp, Op.intCmp, bne, beq_int], by simp, by simp⟩
  case h_22 k a k' b hk ha hk' hb =>
    obtain ⟨rfl, h⟩ := h
    exact ⟨_, _, h, .b _, by simp [binOp, Op.intCmp], by simp, by simp⟩
  case h_23 k a k' b hk ha hk' hb =>
    obtain ⟨rfl, h⟩ := h
    exact ⟨_, _, h, .b _, by simp [binOp, Op.intCmp], by simp, by simp⟩
  case h_24 k a k' b hk ha hk' hb =>
    obtain ⟨rfl, h⟩ := h
    exact ⟨_, _, h, .b _, by simp [binOp, Op.intCmp], by simp, by simp⟩
  case h_25 k a k' b hk ha hk' hb =>
    obtain ⟨rfl, h⟩ := h
    exact ⟨_, _, h, .b _, by simp [binOp, Op.intCmp], by simp, by simp⟩
  case h_26 k a b hk ha hb =>
    obtain ⟨m, rfl⟩ := Int.eq_ofNat_of_zero_le h.1
    exact ⟨_, _, h.2, .n k _ hk (lt_pw _), by simp [binOp, Op.shift, shl_real hk, Int.not_lt.2 h.1], by simp, by simp⟩
  case h_27 k a b hk ha hb =>
    obtain ⟨m, rfl⟩ := Int.eq_ofNat_of_zero_le h.1
    exact ⟨_, _, h.2, .n k _ hk (Nat.lt_of_le_of_lt (by rw [Nat.shiftRight_eq_div_pow]; exact Nat.div_le_self _ _) ha), by simp [binOp, Op.shift, shr_real ha, Int.not_lt.2 h.1], by simp, by simp⟩
  case h_28 k a k' b hk ha hk' hb =>
    exact ⟨_, _, h, .n k _ hk (lt_pw _), by simp [binOp, Op.shift, shl_real hk, Int.not_lt.2 (Int.natCast_nonneg b)], by simp, by simp⟩
  case h_29 k a k' b hk ha hk' hb =>
    exact ⟨_, _, h, .n k _ hk (Nat.lt_of_le_of_lt (by rw [Nat.shiftRight_eq_div_pow]; exact Nat.div_le_self _ _) ha), by simp [binOp, Op.shift, shr_real ha, Int.not_lt.2 (Int.natCast_nonneg b)], by simp, by simp⟩
  case h_30 a b =>
    obtain ⟨rfl, h⟩ := h
    obtain ⟨d, hd, hf⟩ := ht
    simp only [TK.fits] at hf; subst hf
    exact ⟨_, _, h, .b _, run_eql_bool X.w t a b hd, by simp, by simp⟩
  case h_31 a b =>
    obtain ⟨rfl, h⟩ := h
    obtain ⟨d, hd, hf⟩ := ht
    simp only [TK.fits] at hf; subst hf
    exact ⟨_, _, h, .b _, by simp [binOp, run_equal_bool X.w t a b hd, bne], by simp, by simp⟩
  all_goals
    obtain ⟨ht', h⟩ := h
    have hu : ∃ e, P.underlying t = some (.slice e) := by
      obtain ⟨d, hd, hf⟩ := ht
      cases tk <;> simp [TK.isSl] at ht'
      simp only [TK.fits] at hf
      exact ⟨_, by rw [hd, hf]⟩
    obtain ⟨e, hu⟩ := hu
  case h_32.sl0.nils a c => cases a with
    | none => exact ⟨_, _, h.1 rfl, .b _, by simp [binOp, run_equal_slice_nil X.w t e _ _ _ hu], by simp, by simp⟩
    | some a => exact ⟨_, _, h.2, .b _, by simp [binOp, run_equal_slice_nil X.w t e _ _ _ hu], by simp, by simp⟩
  case h_32.sl.nils => exact ⟨_, _, h.2, .b _, by simp [binOp, run_equal_slice_nil X.w t e _ _ _ hu], by simp, by simp⟩
  case h_33.sl0.nils a c => cases a with
    | none => exact ⟨_, _, h.1 rfl, .b _, by simp [binOp, run_equal_slice_nil X.w t e _ _ _ hu], by simp, by simp⟩
    | some a => exact ⟨_, _, h.2, .b _, by simp [binOp, run_equal_slice_nil X.w t e _ _ _ hu], by simp, by simp⟩
  case h_33.sl.nils => exact ⟨_, _, h.2, .b _, by simp [binOp, run_equal_slice_nil X.w t e _ _ _ hu], by simp, by simp⟩
  case h_34 => exact ⟨_, _, h, .b _, by simp [binOp, run_equal_slice_nil X.w t e _ _ _ hu], by simp, by simp⟩
  case h_35 => exact ⟨_, _, h, .b _, by simp [binOp, run_equal_slice_nil X.w t e _ _ _ hu], by simp, by simp⟩
  case h_36 => exact ⟨_, _, h, .b _, by simp [binOp, run_equal_slice_nil X.w t e _ _ _ hu], by simp, by simp⟩
  case h_37 => exact ⟨_, _, h, .b _, by simp [binOp, run_equal_slice_nil X.w t e _ _ _ hu], by simp, by simp⟩
  case h_38.row.nils a c _ _ _ _ _ hnn _ => cases a with
    | none => exact ⟨_, _, h.1 (hnn rfl), .b _, by simp [binOp, run_equal_slice_nil X.w t e _ _ _ hu], by simp, by simp⟩
    | some a => exact ⟨_, _, h.2, .b _, by simp [binOp, run_equal_slice_nil X.w t e _ _ _ hu], by simp, by simp⟩
  case h_39.row.nils a c _ _ _ _ _ hnn _ => cases a with
    | none => exact ⟨_, _, h.1 (hnn rfl), .b _, by simp [binOp, run_equal_slice_nil X.w t e _ _ _ hu], by simp, by simp⟩
    | some a => exact ⟨_, _, h.2, .b _, by simp [binOp, run_equal_slice_nil X.w t e _ _ _ hu], by simp, by simp⟩
  case h_40.ow.nils => exact ⟨_, _, h, .b _, by simp [binOp, run_equal_slice_nil X.w t e _ _ _ hu], by simp, by simp⟩
  case h_41.ow.nils => exact ⟨_, _, h, .b _, by simp [binOp, run_equal_slice_nil X.w t e _ _ _ hu], by simp, by simp⟩

theorem un_sound {P : Program} {X : Lay} {op : UnOp} {x : V} {K : V → Prop} {v : Value} (h : @un op x ⟨K⟩) (hx : Rep X v x) :
    ∃ r u, K r ∧ Rep X u r ∧ (Op.unary op v).run P X.w = .ok u X.w := by
  unfold un at h
  split at h <;> first | exact h.elim | skip
  all_goals (simp only at h)
  all_goals (cases hx)
  case h_1 a => exact ⟨_, _, h, .b _, by simp [Op.unary]⟩
  case h_2 k a hk ha =>
    refine ⟨_, _, h, .n k _ hk (lt_pw _), ?_⟩
    have e := wrap_sub hk (x := 0) ha
    simp only [Int.natCast_zero, Int.zero_sub, Nat.zero_add] at e
    simp [Op.unary, Op.intArith, e]
  case h_3 a ha => exact ⟨_, _, h.2, .z _ h.1, by simp [Op.unary, Op.intArith, wrap_ok h.1]⟩

theorem conv_sound {P : Program} {X : Lay} {d : TK} {x : V} {K : V → Prop} {v : Value} (s t : TypeId) (hs : ∃ e, P.underlying s = some e) (ht : ∃ e, P.underlying t = some e ∧ d.fits P e) (h : @conv d x ⟨K⟩) (hx : Rep X v x) :
    ∃ r u, K r ∧ Rep X u r ∧ (convert s t v).run P X.w = .ok u X.w := by
  obtain ⟨es, hs⟩ := hs
  obtain ⟨et, ht, hf⟩ := ht
  have run : ∀ (k : IntKind) (m : IntKind) (n : Int), et = .int k → (convert s t (.int m n)).run P X.w = .ok (.int k (k.wrap n)) X.w := by
    rintro k m n rfl
    simp [convert, run_underlying hs, run_underlying ht, Conv.intToInt]
  unfold conv at h
  split at h <;> first | exact h.elim | skip
  all_goals (simp only at h; simp only [TK.fits] at hf)
  all_goals (cases hx)
  case h_1 a ha => exact ⟨_, _, h, .z _ ha, by rw [run .i64 _ _ hf, wrap_ok ha]⟩
  case h_2 k a hk ha =>
    have e : i64ok (a : Int) := by unfold i64ok; omega
    exact ⟨_, _, h.2, .z _ e, by rw [run .i64 _ _ hf, wrap_ok e]⟩
  case h_3 k a hk ha =>
    have hs : k.signed = false := h.1
    refine ⟨_, _, h.2, .n k _ hs ?_, ?_⟩
    · have h1 : a % (pw k : Int) < pw k := Int.emod_lt_of_pos _ (Int.ofNat_lt.2 (pw_pos k))
      have h2 : 0 ≤ a % (pw k : Int) := Int.emod_nonneg _ (Int.ne_of_gt (Int.ofNat_lt.2 (pw_pos k)))
      unfold pw at *; omega
    · rw [run k _ _ hf, wrap_u hs]
      have h2 : 0 ≤ a % (pw k : Int) := Int.emod_nonneg _ (Int.ne_of_gt (Int.ofNat_lt.2 (pw_pos k)))
      rw [Int.toNat_of_nonneg h2]; simp [pw]
  case h_4 k k' a hk hk' ha =>
    have hs : k.signed = false := h.1
    exact ⟨_, _, h.2, .n k _ hs (lt_pw _), by rw [run k _ _ hf, wrap_nat hs]; rfl⟩
end Go.Proofs.Ytaojebdjkpdcdaa.I
