/- Lists of parts and the number that they tell. Plain Lean. -/
import Derived.Test.YtaojebdjkpdcdaaPv2
namespace Go.Proofs.Ytaojebdjkpdcdaa.I

def bitI (n k : Nat) : Int := if n.testBit k then 1 else 0
def bitsL (k n : Nat) : List Int := (List.range k).map (bitI n)
/-- A number's parts. -/
def pb (n : Nat) : List Int := bitsL (bl n) n
def bv : List Int → Nat
  | [] => 0
  | x :: xs => (if x = 1 then 1 else 0) + 2 * bv xs
def good (l : List Int) : Prop := ∀ x ∈ l, x = 0 ∨ x = 1

theorem bitI_01 (n k : Nat) : bitI n k = 0 ∨ bitI n k = 1 := by unfold bitI; split <;> simp
theorem bitI_eq_one {n k : Nat} : bitI n k = 1 ↔ n.testBit k = true := by unfold bitI; split <;> simp_all
theorem bitI_eq_zero {n k : Nat} : bitI n k = 0 ↔ n.testBit k = false := by unfold bitI; split <;> simp_all
theorem bitI_zero (k : Nat) : bitI 0 k = 0 := by simp [bitI]
theorem bitI_xor (a b k : Nat) : (bitI a k + bitI b k) % 2 = bitI (a ^^^ b) k := by
  unfold bitI; rw [Nat.testBit_xor]
  cases a.testBit k <;> cases b.testBit k <;> rfl

theorem bitsL_len (k n : Nat) : (bitsL k n).length = k := by simp [bitsL]
theorem pb_len (n : Nat) : (pb n).length = bl n := bitsL_len _ _
theorem good_bitsL (k n : Nat) : good (bitsL k n) := by
  intro x hx
  obtain ⟨i, _, rfl⟩ := List.mem_map.1 hx
  exact bitI_01 n i
theorem good_pb (n : Nat) : good (pb n) := good_bitsL _ _
theorem good_nil : good [] := fun _ h => by cases h
theorem good_take {l : List Int} (h : good l) (k : Nat) : good (l.take k) := fun x hx => h x (List.mem_of_mem_take hx)

theorem testBit_bv_zero {x : Int} {l : List Int} : (bv (x :: l)).testBit 0 = decide (x = 1) := by
  rw [bv, Nat.testBit_zero]
  split
  · rename_i h; simp [h]
  · rename_i h; simp [h]
theorem testBit_bv_succ {x : Int} {l : List Int} {k : Nat} : (bv (x :: l)).testBit (k + 1) = (bv l).testBit k := by
  rw [bv, Nat.testBit_succ]
  congr 1
  split <;> omega

theorem getD_bv {l : List Int} (h : good l) (i : Nat) : l.getD i 0 = bitI (bv l) i := by
  induction l generalizing i with
  | nil => simp [bv, bitI]
  | cons x l ih =>
    have hx := h x (by simp)
    cases i with
    | zero =>
      unfold bitI
      rw [testBit_bv_zero]
      rcases hx with rfl | rfl <;> simp
    | succ i =>
      rw [List.getD_cons_succ, ih (fun y hy => h y (by simp [hy]))]
      unfold bitI
      rw [testBit_bv_succ]

theorem bl_bv (l : List Int) : bl (bv l) ≤ l.length := by
  induction l with
  | nil => simp [bv, bl_zero]
  | cons x l ih =>
    rw [bl_lt] at *
    rw [bv, List.length_cons, Nat.pow_succ]
    split <;> omega

theorem testBit_bv {l : List Int} (i : Nat) : (bv l).testBit i = decide (l.getD i 0 = 1) := by
  induction l generalizing i with
  | nil => simp [bv]
  | cons x l ih =>
    cases i with
    | zero => rw [testBit_bv_zero]; rfl
    | succ i => rw [testBit_bv_succ, ih]; rfl

theorem bv_bitsL (k n : Nat) : bv (bitsL k n) = n % 2 ^ k := by
  apply Nat.eq_of_testBit_eq
  intro i
  rw [testBit_bv, Nat.testBit_mod_two_pow]
  by_cases h : i < k
  · simp [bitsL, List.getD, h, bitI_eq_one]
  · simp [bitsL, List.getD, h]
theorem bv_pb (n : Nat) : bv (pb n) = n := by
  unfold pb; rw [bv_bitsL, Nat.mod_eq_of_lt (lt_bl n)]

theorem testBit_bv' {l : List Int} (i : Nat) : (bv l).testBit i = (l[i]? == some 1) := by
  rw [testBit_bv, List.getD_eq_getElem?_getD]
  cases l[i]? with
  | none => rfl
  | some x => rw [Bool.eq_iff_iff]; simp
theorem bv_append (l m : List Int) : bv (l ++ m) = bv l ^^^ (bv m) <<< l.length := by
  apply Nat.eq_of_testBit_eq
  intro i
  rw [Nat.testBit_xor, Nat.testBit_shiftLeft, testBit_bv', testBit_bv', testBit_bv']
  by_cases h : i < l.length
  · have : ¬ l.length ≤ i := by omega
    simp [List.getElem?_append_left h, this]
  · have h' : l.length ≤ i := by omega
    simp [List.getElem?_append_right h', h']
theorem bv_zeros (n : Nat) : bv (List.replicate n 0) = 0 := by
  induction n with
  | zero => rfl
  | succ n ih => rw [List.replicate_succ, bv, ih]; simp

theorem take_bl {l : List Int} (h : good l) : l.take (bl (bv l)) = pb (bv l) := by
  have hl := bl_bv l
  apply List.ext_getElem
  · rw [pb_len, List.length_take]; omega
  · intro i h1 h2
    have := getD_bv h i
    rw [List.length_take] at h1
    have hi : i < l.length := by omega
    simp only [List.getD, List.getElem?_eq_getElem hi, Option.getD_some] at this
    simp [pb, bitsL, this]

/-- While what stands last is 0, fewer will do. -/
theorem bl_less {l : List Int} (h : good l) {k : Nat} (hk : bl (bv l) ≤ k) (h0 : 0 < k) (hz : l.getD (k - 1) 0 = 0) : bl (bv l) ≤ k - 1 := by
  rcases Nat.lt_or_ge (k - 1) (bl (bv l)) with h' | h'
  · have e : bl (bv l) - 1 = k - 1 := by omega
    have := bl_top (x := bv l) (by rintro e'; rw [e', bl_zero] at h'; omega)
    rw [e] at this
    rw [getD_bv h, bitI_eq_zero, this] at hz; cases hz
  · exact h'
theorem bl_full {l : List Int} (h : good l) {k : Nat} (hk : bl (bv l) ≤ k) (h0 : 0 < k) (hz : l.getD (k - 1) 0 ≠ 0) : bl (bv l) = k := by
  rw [getD_bv h] at hz
  have : (bv l).testBit (k - 1) = true := by
    cases e : (bv l).testBit (k - 1) with
    | true => rfl
    | false => exact absurd (bitI_eq_zero.2 e) hz
  have := bl_of_testBit this
  omega

theorem bits_getD (n m i : Nat) (h : i < n) : (bitsL n m).getD i 0 = bitI m i := by simp [bitsL, List.getD, h]
theorem bits_take (n m : Nat) : (bitsL n m).take n = bitsL n m := by rw [List.take_of_length_le]; simp [bitsL]
theorem bits_zero (n : Nat) : List.replicate n (0 : Int) = bitsL n 0 := by
  apply List.ext_getElem
  · simp [bitsL]
  · intro i h1 h2; simp [bitsL, bitI_zero]
theorem bits_snoc (n m : Nat) : bitsL n m ++ [bitI m n] = bitsL (n + 1) m := by
  simp [bitsL, List.range_succ]
theorem bits_set (n m j : Nat) (v : Nat) (_ : j < n) (h : ∀ i, i ≠ j → v.testBit i = m.testBit i) : (bitsL n m).set j (bitI v j) = bitsL n v := by
  apply List.ext_getElem
  · simp [bitsL]
  · intro i h1 h2
    simp only [bitsL, List.getElem_set, List.getElem_map, List.getElem_range]
    by_cases e : j = i
    · subst e; simp
    · simp only [e, if_false]; unfold bitI; rw [h i (fun x => e x.symm)]
theorem bits_upd {n m j : Nat} (w : Nat) (hj : j < n) : (bitsL n m).set j (((bitsL n m).getD j 0 + bitI w 0) % 2) = bitsL n (m ^^^ (if w.testBit 0 = true then 2 ^ j else 0)) := by
  rw [bits_getD _ _ _ hj]
  have e : (bitI m j + bitI w 0) % 2 = bitI (m ^^^ (if w.testBit 0 = true then 2 ^ j else 0)) j := by
    cases hw : w.testBit 0 with
    | true =>
      have h1 : bitI w 0 = 1 := bitI_eq_one.2 hw
      rw [h1, if_pos rfl]
      unfold bitI
      rw [Nat.testBit_xor, Nat.testBit_two_pow_self]
      cases m.testBit j <;> rfl
    | false =>
      have h1 : bitI w 0 = 0 := bitI_eq_zero.2 hw
      rw [h1, if_neg (by simp), Nat.xor_zero]
      unfold bitI
      cases m.testBit j <;> rfl
  rw [e]
  refine bits_set _ _ _ _ hj fun i hi => ?_
  rw [Nat.testBit_xor]
  split
  · rw [Nat.testBit_two_pow]
    have : ¬ j = i := fun h => hi h.symm
    simp [this]
  · simp

theorem bits_upd' {n m j : Nat} {b : Int} (hb : b = 0 ∨ b = 1) (hj : j < n) : (bitsL n m).set j (((bitsL n m).getD j 0 + b) % 2) = bitsL n (m ^^^ (if b = 1 then 2 ^ j else 0)) := by
  rcases hb with rfl | rfl
  · have := bits_upd (n := n) (m := m) 0 hj
    simpa [bitI] using this
  · have := bits_upd (n := n) (m := m) 1 hj
    simpa [bitI] using this

theorem bv_take_succ {l : List Int} {k : Nat} (hk : k < l.length) : bv (l.take (k + 1)) = bv (l.take k) ^^^ (if l.getD k 0 = 1 then 2 ^ k else 0) := by
  have e : l.take (k + 1) = l.take k ++ [l.getD k 0] := by
    rw [List.take_succ_eq_append_getElem hk]; simp [List.getD, hk]
  rw [e, bv_append, List.length_take, Nat.min_eq_left (by omega), bv, bv]
  congr 1
  split
  · simp [Nat.shiftLeft_eq]
  · simp

theorem wd_wds (n : Nat) : wd n = wds ((bl n + 63) / 64) n := by
  apply List.ext_getElem
  · rw [wd_len, wds_len]
  · intro i h1 h2
    have := wd_getD n i
    simp only [List.getD, List.getElem?_eq_getElem h1, Option.getD_some] at this
    rw [this]; simp [wds]
theorem wds_snoc (n m : Nat) : wds n m ++ [wdAt m n] = wds (n + 1) m := by simp [wds, List.range_succ]

theorem bits_append (k n m j : Nat) (h : n < 2 ^ k) : bitsL k n ++ bitsL j m = bitsL (k + j) (n ^^^ m <<< k) := by
  apply List.ext_getElem
  · simp [bitsL]
  · intro i h1 h2
    simp only [bitsL_len] at h2
    by_cases hi : i < k
    · rw [List.getElem_append_left (by rw [bitsL_len]; exact hi)]
      simp only [bitsL, List.getElem_map, List.getElem_range]
      unfold bitI; rw [Nat.testBit_xor, Nat.testBit_shiftLeft]
      have : ¬ k ≤ i := by omega
      simp [this]
    · rw [List.getElem_append_right (by rw [bitsL_len]; omega)]
      simp only [bitsL, List.getElem_map, List.getElem_range, List.length_map, List.length_range]
      unfold bitI; rw [Nat.testBit_xor, Nat.testBit_shiftLeft]
      have h3 : k ≤ i := by omega
      have : n.testBit i = false := Nat.testBit_lt_two_pow (Nat.lt_of_lt_of_le h (Nat.pow_le_pow_right (by omega) h3))
      simp [h3, this]

theorem bitI_mod (n k : Nat) : ((n / 2 ^ k % 2 : Nat) : Int) = bitI n k := by
  unfold bitI; rw [Nat.testBit_eq_decide_div_mod_eq]
  simp only [decide_eq_true_eq]
  split <;> omega
end Go.Proofs.Ytaojebdjkpdcdaa.I
