/- Aggregates that are put together of parts. -/
import Derived.Test.YtaojebdjkpdcdaaStep
namespace Go.Proofs.Ytaojebdjkpdcdaa.I
open Go

theorem RepL.len {X : Lay} {vs : List Value} {xs : List V} (h : RepL X vs xs) : vs.length = xs.length := by
  induction h with
  | nil => rfl
  | cons _ _ ih => simp [ih]

theorem RepL.get {X : Lay} {vs : List Value} {xs : List V} (h : RepL X vs xs) : ∀ k (h1 : k < vs.length) (h2 : k < xs.length), Rep X vs[k] xs[k] := by
  induction h with
  | nil => intro k h1; simp at h1
  | cons h _ ih =>
    intro k h1 h2
    cases k with
    | zero => exact h
    | succ k => exact ih k (by simpa using h1) (by simpa using h2)

theorem RepL.of_get {X : Lay} : ∀ {vs : List Value} {xs : List V}, vs.length = xs.length → (∀ k (h1 : k < vs.length) (h2 : k < xs.length), Rep X vs[k] xs[k]) → RepL X vs xs
  | [], [], _, _ => .nil
  | v :: vs, x :: xs, hl, h => .cons (h 0 (by simp) (by simp)) (RepL.of_get (by simpa using hl) fun k h1 h2 => h (k + 1) (by simpa using h1) (by simpa using h2))
  | [], _ :: _, hl, _ => by simp at hl
  | _ :: _, [], hl, _ => by simp at hl

theorem RepL.append {X : Lay} {vs ws : List Value} {xs ys : List V} (h : RepL X vs xs) (g : RepL X ws ys) : RepL X (vs ++ ws) (xs ++ ys) := by
  induction h with
  | nil => exact g
  | cons h _ ih => exact .cons h ih

theorem RepL.take {X : Lay} {vs : List Value} {xs : List V} (h : RepL X vs xs) (n : Nat) : RepL X (vs.take n) (xs.take n) := by
  induction h generalizing n with
  | nil => simp; exact .nil
  | cons h _ ih => cases n with
    | zero => exact .nil
    | succ n => exact .cons h (ih n)

theorem RepL.drop {X : Lay} {vs : List Value} {xs : List V} (h : RepL X vs xs) (n : Nat) : RepL X (vs.drop n) (xs.drop n) := by
  induction h generalizing n with
  | nil => simp; exact .nil
  | cons h t ih => cases n with
    | zero => exact .cons h t
    | succ n => exact ih n

theorem RepL.mono {X Y : Lay} (le : X.Le Y) {vs : List Value} {xs : List V} (h : RepL X vs xs) : RepL Y vs xs := by
  induction h with
  | nil => exact .nil
  | cons h _ ih => exact .cons (h.mono le) ih

theorem RepL.splice {X : Lay} {vs ws : List Value} {xs ys : List V} (h : RepL X vs xs) (g : RepL X ws ys) (off : Nat) : RepL X (vs.take off ++ ws ++ vs.drop (off + ws.length)) (splice xs off ys) := by
  unfold I.splice
  rw [g.len]
  exact ((h.take off).append g).append (h.drop _)

/-- The real cells of a value. -/
theorem rep_cells {X : Lay} {v : Value} {x : V} {es : Nat} {ag : Bool} (h : Rep X v x) (hf : x.fits es ag = true) : RepL X v.cells.toList x.cells ∧ (∀ u ∈ v.cells, u.oneCell' = true) := by
  cases h with
  | agg vs cs hz h1 h2 =>
    simp only [Value.cells, V.cells]
    exact ⟨.of_get (by simpa using hz) fun k g1 g2 => by simpa using h2 k g2 (by simpa using g1), h1⟩
  | u v => simp [V.fits] at hf
  | tup vs cs => simp [V.fits] at hf
  | b x => exact ⟨.cons (.b x) .nil, by simp [Value.cells, Value.oneCell']⟩
  | n k x h1 h2 => exact ⟨.cons (.n k x h1 h2) .nil, by simp [Value.cells, Value.oneCell']⟩
  | z x h1 => exact ⟨.cons (.z x h1) .nil, by simp [Value.cells, Value.oneCell']⟩
  | s x h => exact ⟨.cons (.s x h) .nil, by simp [Value.cells, Value.oneCell']⟩
  | sl0 a c => exact ⟨.cons (.sl0 a c) .nil, by simp [Value.cells, Value.oneCell']⟩
  | sl b o c es xs vals h1 h2 h3 h4 h5 h6 => exact ⟨.cons (.sl b o c es xs vals h1 h2 h3 h4 h5 h6) .nil, by simp [Value.cells, Value.oneCell']⟩
  | lit b o es xs vals h2 h3 h4 h5 h6 => exact ⟨.cons (.lit b o es xs vals h2 h3 h4 h5 h6) .nil, by simp [Value.cells, Value.oneCell']⟩
  | nils => exact ⟨.cons .nils .nil, by simp [Value.cells, Value.oneCell']⟩
  | fn f vs cs us ds h1 h2 h3 h4 => exact ⟨.cons (.fn f vs cs us ds h1 h2 h3 h4) .nil, by simp [Value.cells, Value.oneCell']⟩
  | nilf => exact ⟨.cons .nilf .nil, by simp [Value.cells, Value.oneCell']⟩
  | ifc t v x h => exact ⟨.cons (.ifc t v x h) .nil, by simp [Value.cells, Value.oneCell']⟩
  | nili => exact ⟨.cons .nili .nil, by simp [Value.cells, Value.oneCell']⟩
  | ref h m es i off b o h1 h2 h3 => exact ⟨.cons (.ref h m es i off b o h1 h2 h3) .nil, by simp [Value.cells, Value.oneCell']⟩
  | pc b o cs off vals h1 h2 h3 => exact ⟨.cons (.pc b o cs off vals h1 h2 h3) .nil, by simp [Value.cells, Value.oneCell']⟩
  | obj id off => exact ⟨.cons (.obj id off) .nil, by simp [Value.cells, Value.oneCell']⟩
  | nilp => exact ⟨.cons .nilp .nil, by simp [Value.cells, Value.oneCell']⟩
  | row h m len a c h1 h2 h3 h4 h5 h6 h7 => exact ⟨.cons (.row h m len a c h1 h2 h3 h4 h5 h6 h7) .nil, by simp [Value.cells, Value.oneCell']⟩
  | ow id off len cap ad h1 h2 h3 => exact ⟨.cons (.ow id off len cap ad h1 h2 h3) .nil, by simp [Value.cells, Value.oneCell']⟩
  | arr a len c p ad h1 h2 h3 h4 => exact ⟨.cons (.arr a len c p ad h1 h2 h3 h4) .nil, by simp [Value.cells, Value.oneCell']⟩

theorem foldl_set (off : Nat) : ∀ (vs : List Value) (k : Nat) (cs : Array Value), off + k + vs.length ≤ cs.size →
    ((vs.zipIdx k).foldl (fun cs p => cs.setIfInBounds (off + p.2) p.1) cs).toList = cs.toList.take (off + k) ++ vs ++ cs.toList.drop (off + k + vs.length)
  | [], k, cs, _ => by simp
  | v :: vs, k, cs, h => by
    simp only [List.zipIdx_cons, List.foldl_cons]
    rw [foldl_set off vs (k + 1) _ (by simp at h ⊢; omega)]
    simp only [List.length_cons] at h ⊢
    have hk : off + k < cs.toList.length := by simp; omega
    simp only [Array.toList_setIfInBounds]
    have e1 : (cs.toList.set (off + k) v).take (off + (k + 1)) = cs.toList.take (off + k) ++ [v] := by
      rw [show off + (k + 1) = off + k + 1 by omega, List.take_succ_eq_append_getElem (by simpa using hk), List.take_set_of_le (Nat.le_refl _)]
      simp
    rw [e1, List.drop_set_of_lt (by omega)]
    simp [show off + (k + 1) + vs.length = off + k + (vs.length + 1) by omega]

theorem fill_sound {X : Lay} {place : Nat → Option (Nat × Nat)} : ∀ (parts : List (Nat × Value)) (ps : List (Nat × V)) (cs : Array Value) (zs : List V),
    parts.length = ps.length → (∀ k (h1 : k < parts.length) (h2 : k < ps.length), ∃ n ag, place parts[k].1 = some (ps[k].1, n) ∧ ps[k].2.fits n ag = true ∧ Rep X parts[k].2 ps[k].2 ∧ ps[k].1 + n ≤ zs.length) →
    RepL X cs.toList zs → (∀ u ∈ cs, u.oneCell' = true) →
    ∃ cs', Instr.fill place cs parts = some cs' ∧ RepL X cs'.toList (I.fill zs ps) ∧ (∀ u ∈ cs', u.oneCell' = true)
  | [], [], cs, zs, _, _, h, h1 => ⟨cs, rfl, h, h1⟩
  | [], _ :: _, _, _, h, _, _, _ => by simp at h
  | _ :: _, [], _, _, h, _, _, _ => by simp at h
  | (j, v) :: parts, (off, x) :: ps, cs, zs, hl, hp, h, h1 => by
    obtain ⟨n, ag, e1, e2, e3, e4⟩ := hp 0 (by simp) (by simp)
    simp only [List.getElem_cons_zero] at e1 e2 e3 e4
    have hc := rep_cells e3 e2
    have hn : v.cells.size = n := by have := hc.1.len; rw [(fits_spec e2).2] at this; simpa using this
    have hz : cs.size = zs.length := by have := h.len; simpa using this
    have e5 : ¬ (v.cells.size ≠ n ∨ cs.size < off + v.cells.size) := by omega
    have ef := foldl_set off v.cells.toList 0 cs (by simp; omega)
    have efold : v.cells.zipIdx.foldl (fun cs p => cs.setIfInBounds (off + p.2) p.1) cs = (v.cells.toList.zipIdx.foldl (fun cs p => cs.setIfInBounds (off + p.2) p.1) cs) := by
      rw [← Array.foldl_toList]; simp
    have step : RepL X (v.cells.zipIdx.foldl (fun cs p => cs.setIfInBounds (off + p.2) p.1) cs).toList (splice zs off x.cells) := by
      rw [efold, ef]; simp only [Nat.add_zero]
      exact h.splice hc.1 off
    have one : ∀ u ∈ (v.cells.zipIdx.foldl (fun cs p => cs.setIfInBounds (off + p.2) p.1) cs), u.oneCell' = true := by
      intro u hu
      rw [← Array.mem_toList_iff, efold, ef] at hu
      simp only [List.mem_append] at hu
      rcases hu with (hu | hu) | hu
      · exact h1 _ (Array.mem_toList_iff.1 (List.mem_of_mem_take hu))
      · exact hc.2 _ (Array.mem_toList_iff.1 hu)
      · exact h1 _ (Array.mem_toList_iff.1 (List.mem_of_mem_drop hu))
    have hlen : (splice zs off x.cells).length = zs.length := by
      simp only [I.splice, List.length_append, List.length_take, List.length_drop, (fits_spec e2).2]; omega
    obtain ⟨cs', g1, g2, g3⟩ := fill_sound parts ps _ _ (by simpa using hl) (fun k k1 k2 => by
      obtain ⟨n', ag', f1, f2, f3, f4⟩ := hp (k + 1) (by simpa using k1) (by simpa using k2)
      simp only [List.getElem_cons_succ] at f1 f2 f3 f4
      exact ⟨n', ag', f1, f2, f3, by rw [hlen]; exact f4⟩) step one
    refine ⟨cs', ?_, g2, g3⟩
    simp only [Instr.fill, e1]
    rw [if_neg (by simp; omega)]
    exact g1
end Go.Proofs.Ytaojebdjkpdcdaa.I
