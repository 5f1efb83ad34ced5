/- What jumps do: so many steps; below the limit all are apart. -/
import Derived.Test.YteomkgcepiecjaaGreatZSeed2
namespace Go.Proofs.YteomkgcepiecjaaGreat.I
open Go
set_option linter.unusedVariables false
set_option linter.unusedSimpArgs false
theorem mixst_jump {m : Nat} (h : m < 18446744073709551616) : ∀ n, mixst m n = mjump m n
  | 0 => by unfold mjump; rw [Nat.zero_mul, Nat.add_zero, Nat.mod_eq_of_lt h, mixst]
  | n + 1 => by
    rw [mixst, mixst_jump h n]
    unfold mstep mjump
    rw [Nat.mod_add_mod, Nat.add_mul, Nat.one_mul, Nat.add_assoc]
theorem hjump_zero {f : HS} (h : f.wf) : hjump f 0 = f := by
  have := h.1
  obtain ⟨c, k, b⟩ := f
  unfold hjump
  simp only [Nat.zero_mod, Nat.zero_ne_one, if_false, Nat.zero_shiftRight, Nat.add_zero] at this ⊢
  rw [Nat.mod_eq_of_lt this]
theorem hjump_succ (f : HS) (n : Nat) : hjump f (n + 1) = hstep (hjump f n) := by
  obtain ⟨c, k, b⟩ := f
  have e1 : (n + 1) >>> 1 = (n + 1) / 2 := rfl
  have e2 : n >>> 1 = n / 2 := rfl
  unfold hjump
  rw [e1, e2]
  by_cases h : n % 2 = 1
  · have h' : ¬ (n + 1) % 2 = 1 := by omega
    rw [if_pos h, if_pos h, if_neg h', if_neg h']
    have e3 : (n + 1) / 2 = n / 2 + 1 := by omega
    cases b
    · simp only [hstep, Bool.false_eq_true, if_false, Bool.not_false, if_true, Bool.not_true, HS.mk.injEq, and_true, true_and, e3]
      omega
    · simp only [hstep, Bool.false_eq_true, if_false, Bool.not_false, if_true, Bool.not_true, HS.mk.injEq, and_true, true_and, e3]
      omega
  · have h' : (n + 1) % 2 = 1 := by omega
    rw [if_neg h, if_neg h, if_pos h', if_pos h']
    have e3 : (n + 1) / 2 = n / 2 := by omega
    cases b
    · simp only [hstep, Bool.false_eq_true, if_false, Bool.not_false, if_true, Bool.not_true, HS.mk.injEq, and_true, true_and, e3]
    · simp only [hstep, Bool.false_eq_true, if_false, Bool.not_false, if_true, Bool.not_true, HS.mk.injEq, and_true, true_and, e3]
      omega
theorem pcgJ_zero {p : D2} (h : p.wf) : pcgJ p 0 = p := by
  have := h.1
  obtain ⟨a, b⟩ := p
  unfold pcgJ aat
  simp only [apow, aone, Nat.one_mul, Nat.add_zero]
  rw [Nat.mod_eq_of_lt this]
theorem pcgJ_succ (p : D2) (n : Nat) : pcgJ p (n + 1) = pcgS (pcgJ p n) := by
  unfold pcgJ pcgS
  simp only [apow]
  rw [aat_then]
theorem gst_gjump {s : GS} (hw : s.wf) (h : gok s) : ∀ n, gst s n = gjump s n
  | 0 => by
    obtain ⟨m, rfl⟩ | ⟨x, hx, rfl⟩ | ⟨p, hp, rfl⟩ | ⟨f, rfl⟩ := gok_cases h
    · have hm : m < 18446744073709551616 := hw.1
      rw [gst, gjump_1, ← mixst_jump hm, mixst]
    · rw [gst, gjump_2, xst]
    · have hm : p.wf := hw.2.2.1
      rw [gst, gjump_3, pcgJ_zero hm]
    · have hm : f.wf := hw.2.2.2
      rw [gst, gjump_4, hjump_zero hm]
  | n + 1 => by
    rw [gst, gst_gjump hw h n]
    obtain ⟨m, rfl⟩ | ⟨x, hx, rfl⟩ | ⟨p, hp, rfl⟩ | ⟨f, rfl⟩ := gok_cases h
    · have hm : m < 18446744073709551616 := hw.1
      rw [gjump_1, gstep_1, gjump_1, ← mixst_jump hm, ← mixst_jump hm, mixst]
    · have hm : x.wf := hw.2.1
      rw [gjump_2, gstep_2 (xst_ne0 hm hx n), gjump_2, xst]
    · rw [gjump_3, gstep_3 (by rw [pcgJ_b]; exact hp), gjump_3, pcgJ_succ]
    · rw [gjump_4, gstep_4, gjump_4, hjump_succ]
theorem gst_add (s : GS) (n : Nat) : ∀ m, gst s (n + m) = gst (gst s n) m
  | 0 => rfl
  | m + 1 => by rw [← Nat.add_assoc, gst, gst_add s n m, gst]
theorem gjump_add {s : GS} (hw : s.wf) (h : gok s) (n m : Nat) : gjump (gjump s n) m = gjump s (n + m) := by
  obtain ⟨j1, j2, j3⟩ := gjump_ok hw h n
  rw [← gst_gjump j1 j2, ← gst_gjump hw h, ← gst_gjump hw h, gst_add]
end Go.Proofs.YteomkgcepiecjaaGreat.I
