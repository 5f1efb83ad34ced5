/- Bytes of states, there and back. -/
import Derived.Test.YtggpbjhmpipplaaGreatGen6
namespace Go.Proofs.YtggpbjhmpipplaaGreat.I
open Go
set_option linter.unusedVariables false
set_option linter.unusedSimpArgs false

theorem ofb_le_self {k n : Nat} (h : n < 256 ^ k) : ofb (le k n) = n := by rw [ofb_le, Nat.mod_eq_of_lt h]
theorem le_ofb_n {k : Nat} {l : List Nat} (hl : l.length = k) (h : ∀ x ∈ l, x < 256) : le k (ofb l) = l := by
  subst hl; exact le_ofb l h
theorem sb_bytes {l : List Nat} {i j : Nat} (h : ∀ x ∈ l, x < 256) : ∀ x ∈ sb l i j, x < 256 := fun x hx => h x (List.mem_of_mem_take (List.mem_of_mem_drop hx))
theorem sb_app (l : List Nat) {i j k : Nat} (h1 : i ≤ j) (h2 : j ≤ k) : sb l i j ++ sb l j k = sb l i k := by
  unfold sb
  have e : (l.take j).drop i = ((l.take k).drop i).take (j - i) := by
    rw [List.take_drop, List.take_take]; congr 2; omega
  have e2 : (l.take k).drop j = ((l.take k).drop i).drop (j - i) := by
    rw [List.drop_drop]; congr 1; omega
  rw [e, e2, List.take_append_drop]
theorem sb_all (l : List Nat) : sb l 0 l.length = l := by simp [sb]
theorem sb_left {l m : List Nat} {i j : Nat} (h : j ≤ l.length) : sb (l ++ m) i j = sb l i j := by
  unfold sb; rw [List.take_append_of_le_length h]
theorem sb_right {l m : List Nat} {i j n : Nat} (hl : l.length = n) (hi : n ≤ i) (hj : i ≤ j) : sb (l ++ m) i j = sb m (i - n) (j - n) := by
  subst hl
  unfold sb
  rw [List.take_append, List.drop_append, List.length_take, List.drop_eq_nil_of_le (by simp; omega), List.nil_append]
  congr 1; omega
theorem sb_full {l : List Nat} {n : Nat} (h : l.length = n) : sb l 0 n = l := by subst h; exact sb_all l

theorem le_sb {p : List Nat} {i j n : Nat} (h : j ≤ p.length) (e : j = i + n) (hb : ∀ x ∈ p, x < 256) : le n (ofb (sb p i j)) = sb p i j :=
  le_ofb_n (by rw [sb_len p (by omega) h]; omega) (sb_bytes hb)
theorem gput_size {s : GS} (h : gok s) : (gput s).length = gsize s.kind.toNat := by
  obtain ⟨m, rfl⟩ | ⟨x, hx, rfl⟩ | ⟨p, hp, rfl⟩ | ⟨f, rfl⟩ := gok_cases h
  · rw [gput_1, le_len]; rfl
  · rw [gput_2, xput_len]; rfl
  · rw [gput_3]; simp only [List.length_append, le_len]; rfl
  · rw [gput_4, List.length_append, hput_len _ _ (by omega)]; rfl
theorem read_mix {m : Nat} (h : m < 18446744073709551616) : gread 1 (gput (g1 m)) = g1 m := by
  show g1 (ofb (le 8 m)) = g1 m
  rw [ofb_le_self (show m < 256 ^ 8 from h)]
theorem read_xosh {x : X4} (h : x.wf) : gread 2 (gput (g2 x)) = g2 x := by
  show g2 (xtake (xput x 4)) = g2 x
  obtain ⟨h1, h2, h3, h4⟩ := h
  have e1 : sb (xput x 4) 0 8 = le 8 x.a := by rw [xput_4, sb_left (by simp), sb_full (le_len _ _)]
  have e2 : sb (xput x 4) 8 16 = le 8 x.b := by
    rw [xput_4, sb_right (le_len 8 _) (by omega) (by omega), sb_left (by simp), sb_full (le_len _ _)]
  have e3 : sb (xput x 4) 16 24 = le 8 x.c := by
    rw [xput_4, sb_right (le_len 8 _) (by omega) (by omega), sb_right (le_len 8 _) (by omega) (by omega), sb_left (by simp), sb_full (le_len _ _)]
  have e4 : sb (xput x 4) 24 32 = le 8 x.d := by
    rw [xput_4, sb_right (le_len 8 _) (by omega) (by omega), sb_right (le_len 8 _) (by omega) (by omega), sb_right (le_len 8 _) (by omega) (by omega), sb_full (le_len _ _)]
  unfold xtake
  rw [e1, e2, e3, e4, ofb_le_self (show x.a < 256 ^ 8 from h1), ofb_le_self (show x.b < 256 ^ 8 from h2), ofb_le_self (show x.c < 256 ^ 8 from h3), ofb_le_self (show x.d < 256 ^ 8 from h4)]
theorem read_pcg {p : D2} (h : p.wf) : gread 3 (gput (g3 p)) = g3 p := by
  show g3 ⟨ofb ((le 16 p.a ++ le 16 p.b).take 16), ofb ((le 16 p.a ++ le 16 p.b).drop 16)⟩ = g3 p
  rw [List.take_left' (le_len _ _), List.drop_left' (le_len _ _), ofb_le_self (show p.a < 256 ^ 16 from h.1), ofb_le_self (show p.b < 256 ^ 16 from h.2)]
theorem read_philox {f : HS} (h : f.wf) : gread 4 (gput (g4 f)) = g4 f := by
  show g4 (htake (hput f 2 ++ [if f.h = true then 1 else 0])) = g4 f
  obtain ⟨h1, h2, h3⟩ := h
  have e0 : hput f 2 = le 16 f.c ++ (le 4 f.k.a ++ le 4 f.k.b) := by simp [hput]
  have e1 : (hput f 2 ++ [if f.h = true then 1 else 0]).take 16 = le 16 f.c := by
    rw [e0, List.append_assoc, List.take_left' (le_len _ _)]
  have e2 : sb (hput f 2 ++ [if f.h = true then 1 else 0]) 16 20 = le 4 f.k.a := by
    rw [e0, List.append_assoc, sb_right (le_len 16 _) (by omega) (by omega), List.append_assoc, sb_left (by simp), sb_full (le_len _ _)]
  have e3 : sb (hput f 2 ++ [if f.h = true then 1 else 0]) 20 24 = le 4 f.k.b := by
    rw [e0, List.append_assoc, sb_right (le_len 16 _) (by omega) (by omega), List.append_assoc, sb_right (le_len 4 _) (by omega) (by omega), sb_left (by simp), sb_full (le_len _ _)]
  have e4 : (hput f 2 ++ [if f.h = true then 1 else 0]).getD 24 0 = if f.h = true then 1 else 0 := by
    rw [List.getD_eq_getElem?_getD, List.getElem?_append_right (by rw [hput_len _ _ (by omega)]; omega), hput_len _ _ (by omega)]; rfl
  unfold htake
  rw [e1, e2, e3, e4, ofb_le_self (show f.c < 256 ^ 16 from h1), ofb_le_self (show f.k.a < 256 ^ 4 from h2), ofb_le_self (show f.k.b < 256 ^ 4 from h3)]
  obtain ⟨c, k, b⟩ := f
  cases b <;> rfl
theorem read_put {s : GS} (hw : s.wf) (h : gok s) : gread s.kind.toNat (gput s) = s := by
  obtain ⟨m, rfl⟩ | ⟨x, hx, rfl⟩ | ⟨p, hp, rfl⟩ | ⟨f, rfl⟩ := gok_cases h
  · exact read_mix hw.1
  · exact read_xosh hw.2.1
  · exact read_pcg hw.2.2.1
  · exact read_philox hw.2.2.2
theorem last_put {s : GS} (h : gok s) : s.kind.toNat = 4 → (gput s).getD 24 0 ≤ 1 := by
  obtain ⟨m, rfl⟩ | ⟨x, hx, rfl⟩ | ⟨p, hp, rfl⟩ | ⟨f, rfl⟩ := gok_cases h
  · intro e; exact absurd e (by rw [g1_kind]; decide)
  · intro e; exact absurd e (by rw [g2_kind]; decide)
  · intro e; exact absurd e (by rw [g3_kind]; decide)
  · intro _
    rw [gput_4, List.getD_eq_getElem?_getD, List.getElem?_append_right (by rw [hput_len _ _ (by omega)]; omega), hput_len _ _ (by omega)]
    cases f.h <;> decide
theorem kind_nat {s : GS} (h : gok s) : 1 ≤ s.kind.toNat ∧ s.kind.toNat ≤ 4 := by have := h.1; omega
/-- What was put comes back. -/
theorem take_put {s : GS} (hw : s.wf) (h : gok s) (b : List Nat) : gtake (s.kind.toNat :: (gput s ++ b)) = (s, (gsize s.kind.toNat : Int) + 1, 0) := by
  have hz := gput_size h
  have e : (gput s ++ b).take (gsize s.kind.toNat) = gput s := List.take_left' hz
  have hl := last_put h
  have h24 : s.kind.toNat = 4 → (gput s ++ b).getD 24 0 = (gput s).getD 24 0 := fun e4 => by
    rw [e4] at hz
    have : (gput s).length = 25 := hz
    rw [List.getD_eq_getElem?_getD, List.getElem?_append_left (by omega), ← List.getD_eq_getElem?_getD]
  rw [gtake_long (kind_nat h) (by rw [List.length_append, hz]; omega) (fun g => by have := hl g.1; have := h24 g.1; omega), e, read_put hw h, if_pos h]
theorem take_cut {s : GS} (h : gok s) : gtake ((s.kind.toNat :: gput s).take (gsize s.kind.toNat)) = (gz, 0, 11) := by
  have hz := gput_size h
  have h1 : 0 < gsize s.kind.toNat := by unfold gsize; split <;> (try split) <;> omega
  obtain ⟨n, hn⟩ : ∃ n, gsize s.kind.toNat = n + 1 := ⟨_, (Nat.succ_pred_eq_of_pos h1).symm⟩
  rw [hn, List.take_succ_cons]
  unfold gtake; simp only
  rw [if_neg (fun g => g (kind_nat h)), if_pos (by rw [List.length_take, hn]; omega)]
theorem put_read {k : Nat} {p : List Nat} (hk : 1 ≤ k ∧ k ≤ 4) (hp : p.length = gsize k) (hb : ∀ x ∈ p, x < 256) (h4 : ¬ (k = 4 ∧ 1 < p.getD 24 0)) : (gread k p).kind.toNat = k ∧ gput (gread k p) = p := by
  obtain rfl | rfl | rfl | rfl : k = 1 ∨ k = 2 ∨ k = 3 ∨ k = 4 := by omega
  · refine ⟨rfl, ?_⟩
    show le 8 (ofb p) = p
    exact le_ofb_n hp hb
  · refine ⟨rfl, ?_⟩
    replace hp : p.length = 32 := hp
    show xput (xtake p) 4 = p
    rw [xput_4]
    show le 8 (ofb (sb p 0 8)) ++ (le 8 (ofb (sb p 8 16)) ++ (le 8 (ofb (sb p 16 24)) ++ le 8 (ofb (sb p 24 32)))) = p
    rw [le_sb (i := 0) (j := 8) (by omega) rfl hb, le_sb (i := 8) (j := 16) (by omega) rfl hb, le_sb (i := 16) (j := 24) (by omega) rfl hb, le_sb (i := 24) (j := 32) (by omega) rfl hb, sb_app p (by omega) (by omega), sb_app p (by omega) (by omega), sb_app p (by omega) (by omega)]
    exact sb_full hp
  · refine ⟨rfl, ?_⟩
    replace hp : p.length = 32 := hp
    show le 16 (ofb (p.take 16)) ++ le 16 (ofb (p.drop 16)) = p
    rw [le_ofb_n (by simp; omega) (fun x hx => hb x (List.mem_of_mem_take hx)), le_ofb_n (by simp; omega) (fun x hx => hb x (List.mem_of_mem_drop hx)), List.take_append_drop]
  · refine ⟨rfl, ?_⟩
    replace hp : p.length = 25 := hp
    show hput (htake p) 2 ++ [if (htake p).h = true then 1 else 0] = p
    have e0 : hput (htake p) 2 = le 16 (ofb (sb p 0 16)) ++ (le 4 (ofb (sb p 16 20)) ++ le 4 (ofb (sb p 20 24))) := by simp [hput, htake, sb]
    have e1 : [if (htake p).h = true then 1 else 0] = sb p 24 25 := by
      have h1 : p.getD 24 0 = p[24] := by simp [List.getD_eq_getElem?_getD, show 24 < p.length by omega]
      have h2 : sb p 24 25 = [p[24]] := by
        unfold sb
        rw [List.take_of_length_le (by omega), List.drop_eq_getElem_cons (by omega), List.drop_eq_nil_of_le (by omega)]
      have h3 : ¬ 1 < p.getD 24 0 := fun g => h4 ⟨rfl, g⟩
      rw [h2]
      have h5 : (htake p).h = decide (p.getD 24 0 = 1) := rfl
      rw [h5, h1]
      rw [h1] at h3
      by_cases h6 : p[24] = 1
      · simp [h6]
      · simp [h6]; omega
    rw [e0, e1, le_sb (i := 0) (j := 16) (by omega) rfl hb, le_sb (i := 16) (j := 20) (by omega) rfl hb, le_sb (i := 20) (j := 24) (by omega) rfl hb, List.append_assoc, List.append_assoc, sb_app p (by omega) (by omega), sb_app p (by omega) (by omega), sb_app p (by omega) (by omega)]
    exact sb_full hp
/-- Whatever is taken is put as those bytes. -/
theorem put_take {b : List Nat} (hb : ∀ x ∈ b, x < 256) (h : (gtake b).2.2 = 0) : gok (gtake b).1 ∧ 1 ≤ (gtake b).2.1 ∧ (gtake b).2.1 ≤ b.length ∧ (gtake b).1.kind.toNat :: gput (gtake b).1 = b.take (gtake b).2.1.toNat := by
  cases b with
  | nil => exact absurd h (by decide)
  | cons k l =>
    unfold gtake at h ⊢
    simp only at h ⊢
    split at h
    · exact absurd h (by decide)
    split at h
    · exact absurd h (by decide)
    split at h
    · exact absurd h (by decide)
    split at h
    · rename_i h1 h2 h3 h4
      rw [if_neg h1, if_neg h2, if_neg h3, if_pos h4]
      have hk := Decidable.not_not.1 h1
      have hp : (l.take (gsize k)).length = gsize k := by rw [List.length_take]; omega
      have h24 : k = 4 → (l.take (gsize k)).getD 24 0 = l.getD 24 0 := fun e => by
        subst e
        simp [List.getD_eq_getElem?_getD, List.getElem?_take, gsize]
      obtain ⟨e1, e2⟩ := put_read hk hp (fun x hx => hb x (List.mem_cons_of_mem _ (List.mem_of_mem_take hx))) (fun g => h3 ⟨g.1, by rw [← h24 g.1]; exact g.2⟩)
      refine ⟨h4, by simp only; omega, by simp only [List.length_cons]; omega, ?_⟩
      simp only
      rw [e1, e2, show ((gsize k : Int) + 1).toNat = gsize k + 1 by omega, List.take_succ_cons]
    · rename_i h1 h2 h3 h4
      exact absurd h (gchk_no h4)
end Go.Proofs.YtggpbjhmpipplaaGreat.I
