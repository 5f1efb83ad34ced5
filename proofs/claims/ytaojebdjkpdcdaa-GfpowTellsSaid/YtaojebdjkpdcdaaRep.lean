/- What an ideal value says of a real one; and that it goes on to say so. -/
import Derived.Test.YtaojebdjkpdcdaaIdeal
import Derived.Laws.Rows
import Derived.Laws.Append
import Derived.Laws.MakeOwn
import Derived.Laws.AppendOwn
import Derived.Laws.Small
namespace Go.Proofs.Ytaojebdjkpdcdaa.I
open Go

/-- Where ideal things lie in a world: the cells that are never written any more; of each local home that there is: its first cell, its capacity, and how many elements it has. -/
structure Lay where
  w : World
  S : Nat → Nat → Prop
  live : Nat → Prop
  j : Nat → Nat × Nat
  cap : Nat → Nat
  L : Nat → Nat

/-- The real cell. -/
def Lay.at (X : Lay) (b o : Nat) : Option Value := X.w.cell? ⟨b, o, none⟩

inductive Rep (X : Lay) : Value → V → Prop
  | u (v : Value) : Rep X v .u
  | b (x : Bool) : Rep X (.bool x) (.b x)
  | n (k : IntKind) (x : Nat) : k.signed = false → x < 2 ^ k.bits → Rep X (.int k x) (.n k x)
  | z (x : Int) : i64ok x → Rep X (.int .i64 x) (.z x)
  | s (x : ByteArray) : x.size ≤ maxLen → Rep X (.string x) (.s x)
  | sl0 (a : Option Addr) (c : Nat) : Rep X (.slice a 0 c) (.sl [])
  | sl (b o c es : Nat) (xs : List V) (vals : Nat → Value) : xs.length ≤ c → c ≤ maxLen → cleans xs = true → (∀ x ∈ xs, x.cells.length = es) →
      (∀ k, k < (flat xs).length → X.S b (o + k) ∧ X.at b (o + k) = some (vals k) ∧ (vals k).oneCell' = true) → (∀ k (h : k < (flat xs).length), Rep X (vals k) (flat xs)[k]) →
      Rep X (.slice (some ⟨b, o, none⟩) xs.length c) (.sl xs)
  | lit (b o : Nat) (es : Nat) (xs : List V) (vals : Nat → Value) : xs.length ≤ maxLen → cleans xs = true → (∀ x ∈ xs, x.cells.length = es) →
      (∀ k, k < (flat xs).length → X.S b (o + k) ∧ X.at b (o + k) = some (vals k) ∧ (vals k).oneCell' = true) → (∀ k (h : k < (flat xs).length), Rep X (vals k) (flat xs)[k]) →
      Rep X (.slice (some ⟨b, o, none⟩) xs.length xs.length) (.lit xs)
  | nils : Rep X (.slice none 0 0) .nils
  | agg (vs : Array Value) (cs : List V) : vs.size = cs.length → (∀ v ∈ vs, v.oneCell' = true) → (∀ k (h : k < cs.length) (h' : k < vs.size), Rep X vs[k] cs[k]) → Rep X (.agg vs) (.agg cs)
  | tup (vs : Array Value) (cs : List V) : vs.size = cs.length → (∀ k (h : k < cs.length) (h' : k < vs.size), Rep X vs[k] cs[k]) → Rep X (.tuple vs) (.tup cs)
  | fn (f : Fn) (vs : Array Value) (cs : List V) (us : Array Value) (ds : List V) : vs.size = cs.length → us.size = ds.length →
      (∀ k (h : k < cs.length) (h' : k < vs.size), Rep X vs[k] cs[k]) → (∀ k (h : k < ds.length) (h' : k < us.size), Rep X us[k] ds[k]) → Rep X (.func f vs us) (.fn f cs ds)
  | nilf : Rep X .nilFunc .nilf
  | ifc (t : TypeId) (v : Value) (x : V) : Rep X v x → Rep X (.iface t v) (.ifc t x)
  | nili : Rep X .nilIface .nili
  | ref (h m es i off : Nat) (b o : Nat) : X.live h → m ≤ X.L h → (m = X.L h → b = (X.j h).1 ∧ o = (X.j h).2 + (i * es + off)) → Rep X (.pointer (some ⟨b, o, none⟩)) (.ref h m es i off)
  | pc (b o : Nat) (cs : List V) (off : Nat) (vals : Nat → Value) : cleans cs = true →
      (∀ k, k < cs.length → X.S b (o + k) ∧ X.at b (o + k) = some (vals k) ∧ (vals k).oneCell' = true) → (∀ k (h : k < cs.length), Rep X (vals k) cs[k]) →
      Rep X (.pointer (some ⟨b, o + off, none⟩)) (.pc cs off)
  | obj (id off : Nat) : Rep X (.pointer (some ⟨id, off, none⟩)) (.obj id off)
  | nilp : Rep X (.pointer none) .nilp
  | row (h m len : Nat) (a : Option Addr) (c : Nat) : X.live h → m ≤ X.L h → len ≤ m → len ≤ c → c ≤ maxLen → (a = none → len = 0) → (m = X.L h → c = X.cap h ∧ (0 < X.cap h → a = some ⟨(X.j h).1, (X.j h).2, none⟩)) → Rep X (.slice a len c) (.row h m len)
  | ow (id off len cap : Nat) (ad : Addr) : len ≤ cap → cap ≤ maxLen → (0 < cap → ad = ⟨id, off, none⟩) → Rep X (.slice (some ad) len cap) (.ow id off len cap)
  | arr (a : Option Addr) (len c : Nat) (p : V) (ad : Addr) : Rep X (.pointer (some ad)) p → len ≤ c → len ≤ maxLen → (0 < len → a = some ad) → Rep X (.slice a len c) (.arr p len)

theorem cleans_iff (xs : List V) : cleans xs = true ↔ ∀ x ∈ xs, x.clean = true := by
  induction xs with
  | nil => simp [cleans]
  | cons x xs ih => simp [cleans, ih]

theorem withins_iff (hs : List Nat) (xs : List V) : withins hs xs = true ↔ ∀ x ∈ xs, x.within hs = true := by
  induction xs with
  | nil => simp [withins]
  | cons x xs ih => simp [withins, ih]

theorem clean_cells {x : V} (h : x.clean = true) : cleans x.cells = true := by
  cases x <;> simp_all [V.cells, V.clean, cleans]

theorem cleans_flat {xs : List V} (h : cleans xs = true) : ∀ y ∈ flat xs, y.clean = true := by
  intro y hy
  obtain ⟨x, hx, hy⟩ := List.mem_flatMap.1 hy
  exact (cleans_iff _).1 (clean_cells ((cleans_iff _).1 h x hx)) y hy

/-- A world, a layout behind another one: what is stable stays; homes may be new, and may have got more elements. -/
structure Lay.Le (X Y : Lay) : Prop where
  S : ∀ b o, X.S b o → Y.S b o
  w : ∀ b o, X.S b o → Y.at b o = X.at b o
  live : ∀ h, X.live h → Y.live h
  hm : ∀ h, X.live h → (Y.L h = X.L h ∧ Y.j h = X.j h ∧ Y.cap h = X.cap h) ∨ X.L h < Y.L h

theorem Lay.Le.refl (X : Lay) : X.Le X := ⟨fun _ _ h => h, fun _ _ _ => rfl, fun _ h => h, fun _ _ => .inl ⟨rfl, rfl, rfl⟩⟩

theorem Rep.mono {X Y : Lay} (le : X.Le Y) {v : Value} {x : V} (h : Rep X v x) : Rep Y v x := by
  induction h with
  | u v => exact .u v
  | b x => exact .b x
  | n k x h1 h2 => exact .n k x h1 h2
  | z x h => exact .z x h
  | s x h => exact .s x h
  | sl0 a c => exact .sl0 a c
  | sl b o c es xs vals hc hcm hcl hu hs _ ih =>
    exact .sl b o c es xs vals hc hcm hcl hu (fun k hk => ⟨le.S _ _ (hs k hk).1, (le.w _ _ (hs k hk).1).trans (hs k hk).2.1, (hs k hk).2.2⟩) ih
  | lit b o es xs vals hcm hcl hu hs _ ih =>
    exact .lit b o es xs vals hcm hcl hu (fun k hk => ⟨le.S _ _ (hs k hk).1, (le.w _ _ (hs k hk).1).trans (hs k hk).2.1, (hs k hk).2.2⟩) ih
  | nils => exact .nils
  | agg vs cs hz h1 _ ih => exact .agg vs cs hz h1 ih
  | tup vs cs hz _ ih => exact .tup vs cs hz ih
  | fn f vs cs us ds h1 h2 _ _ i1 i2 => exact .fn f vs cs us ds h1 h2 i1 i2
  | nilf => exact .nilf
  | ifc t v x _ ih => exact .ifc t v x ih
  | nili => exact .nili
  | ref h m es i off b o hl hm hv =>
    refine .ref h m es i off b o (le.live _ hl) ?_ ?_
    · rcases le.hm h hl with ⟨h1, _, _⟩ | h1 <;> omega
    · intro e
      rcases le.hm h hl with ⟨h1, h2, h3⟩ | h1
      · rw [h2]; exact hv (by omega)
      · omega
  | pc b o cs off vals hcl hs _ ih =>
    exact .pc b o cs off vals hcl (fun k hk => ⟨le.S _ _ (hs k hk).1, (le.w _ _ (hs k hk).1).trans (hs k hk).2.1, (hs k hk).2.2⟩) ih
  | obj id off => exact .obj id off
  | nilp => exact .nilp
  | row h m len a c hl hm hk hc hcm hn hv =>
    refine .row h m len a c (le.live _ hl) ?_ hk hc hcm hn ?_
    · rcases le.hm h hl with ⟨h1, _, _⟩ | h1 <;> omega
    · intro e
      rcases le.hm h hl with ⟨h1, h2, h3⟩ | h1
      · rw [h2, h3]; exact hv (by omega)
      · omega
  | ow id off len cap ad h1 h2 h3 => exact .ow id off len cap ad h1 h2 h3
  | arr a len c p ad _ h1 h2 h3 ih => exact .arr a len c p ad ih h1 h2 h3

/-- What is clean says the same wherever homes lie. -/
theorem Rep.move {X Y : Lay} (hS : ∀ b o, X.S b o → Y.S b o) (hw : ∀ b o, X.S b o → Y.at b o = X.at b o) {v : Value} {x : V} (h : Rep X v x) : x.clean = true → Rep Y v x := by
  induction h with
  | u v => exact fun _ => .u v
  | b x => exact fun _ => .b x
  | n k x h1 h2 => exact fun _ => .n k x h1 h2
  | z x h => exact fun _ => .z x h
  | s x h => exact fun _ => .s x h
  | sl0 a c => exact fun _ => .sl0 a c
  | sl b o c es xs vals hc hcm hcl hu hs _ ih =>
    exact fun _ => .sl b o c es xs vals hc hcm hcl hu (fun k hk => ⟨hS _ _ (hs k hk).1, (hw _ _ (hs k hk).1).trans (hs k hk).2.1, (hs k hk).2.2⟩) fun k hk => ih k hk (cleans_flat hcl _ (List.getElem_mem _))
  | lit b o es xs vals hcm hcl hu hs _ ih =>
    exact fun _ => .lit b o es xs vals hcm hcl hu (fun k hk => ⟨hS _ _ (hs k hk).1, (hw _ _ (hs k hk).1).trans (hs k hk).2.1, (hs k hk).2.2⟩) fun k hk => ih k hk (cleans_flat hcl _ (List.getElem_mem _))
  | nils => exact fun _ => .nils
  | agg vs cs hz h1 _ ih => exact fun h => .agg vs cs hz h1 fun k hk hk' => ih k hk hk' ((cleans_iff _).1 (by simpa [V.clean] using h) _ (List.getElem_mem _))
  | tup vs cs hz _ ih => exact fun h => .tup vs cs hz fun k hk hk' => ih k hk hk' ((cleans_iff _).1 (by simpa [V.clean] using h) _ (List.getElem_mem _))
  | fn f vs cs us ds h1 h2 _ _ i1 i2 =>
    intro h
    simp only [V.clean, Bool.and_eq_true] at h
    exact .fn f vs cs us ds h1 h2 (fun k hk hk' => i1 k hk hk' ((cleans_iff _).1 h.1 _ (List.getElem_mem _))) fun k hk hk' => i2 k hk hk' ((cleans_iff _).1 h.2 _ (List.getElem_mem _))
  | nilf => exact fun _ => .nilf
  | ifc t v x _ ih => exact fun h => .ifc t v x (ih (by simpa [V.clean] using h))
  | nili => exact fun _ => .nili
  | ref h m es i off b o hl hm hv => exact fun h => by simp [V.clean] at h
  | pc b o cs off vals hcl hs _ ih =>
    exact fun _ => .pc b o cs off vals hcl (fun k hk => ⟨hS _ _ (hs k hk).1, (hw _ _ (hs k hk).1).trans (hs k hk).2.1, (hs k hk).2.2⟩) fun k hk => ih k hk ((cleans_iff _).1 hcl _ (List.getElem_mem _))
  | obj id off => exact fun _ => .obj id off
  | nilp => exact fun _ => .nilp
  | row h m len a c hl hm hk hc hcm hn hv => exact fun h => by simp [V.clean] at h
  | ow id off len cap ad h1 h2 h3 => exact fun _ => .ow id off len cap ad h1 h2 h3
  | arr a len c p ad _ h1 h2 h3 ih => exact fun h => .arr a len c p ad (ih (by simpa [V.clean] using h)) h1 h2 h3

/-- Fewer homes: what speaks of none but these still does. -/
theorem Rep.drop' {X : Lay} {hs : List Nat} {L' cap' : Nat → Nat} (hag : ∀ h, X.live h → L' h = X.L h ∧ cap' h = X.cap h) {v : Value} {x : V} (h : Rep X v x) : x.within hs = true → Rep { X with live := (· ∈ hs), L := L', cap := cap' } v x := by
  induction h with
  | u v => exact fun _ => .u v
  | b x => exact fun _ => .b x
  | n k x h1 h2 => exact fun _ => .n k x h1 h2
  | z x h => exact fun _ => .z x h
  | s x h => exact fun _ => .s x h
  | sl0 a c => exact fun _ => .sl0 a c
  | sl b o c es xs vals hc hcm hcl hu hs' hr ih =>
    exact fun _ => .sl b o c es xs vals hc hcm hcl hu hs' fun k hk => Rep.move (X := X) (Y := { X with live := (· ∈ hs), L := L', cap := cap' }) (fun _ _ h => h) (fun _ _ _ => rfl) (hr k hk) (cleans_flat hcl _ (List.getElem_mem _))
  | lit b o es xs vals hcm hcl hu hs' hr ih =>
    exact fun _ => .lit b o es xs vals hcm hcl hu hs' fun k hk => Rep.move (X := X) (Y := { X with live := (· ∈ hs), L := L', cap := cap' }) (fun _ _ h => h) (fun _ _ _ => rfl) (hr k hk) (cleans_flat hcl _ (List.getElem_mem _))
  | nils => exact fun _ => .nils
  | agg vs cs hz h1 _ ih => exact fun h => .agg vs cs hz h1 fun k hk hk' => ih k hk hk' ((withins_iff _ _).1 (by simpa [V.within] using h) _ (List.getElem_mem _))
  | tup vs cs hz _ ih => exact fun h => .tup vs cs hz fun k hk hk' => ih k hk hk' ((withins_iff _ _).1 (by simpa [V.within] using h) _ (List.getElem_mem _))
  | fn f vs cs us ds h1 h2 _ _ i1 i2 =>
    intro h
    simp only [V.within, Bool.and_eq_true] at h
    exact .fn f vs cs us ds h1 h2 (fun k hk hk' => i1 k hk hk' ((withins_iff _ _).1 h.1 _ (List.getElem_mem _))) fun k hk hk' => i2 k hk hk' ((withins_iff _ _).1 h.2 _ (List.getElem_mem _))
  | nilf => exact fun _ => .nilf
  | ifc t v x _ ih => exact fun h => .ifc t v x (ih (by simpa [V.within] using h))
  | nili => exact fun _ => .nili
  | ref h m es i off b o hl hm hv => exact fun h => .ref _ m es i off b o (by simpa [V.within] using h) (by show m ≤ L' _; rw [(hag _ hl).1]; exact hm) (fun e => hv (by have e : m = L' _ := e; rw [(hag _ hl).1] at e; exact e))
  | pc b o cs off vals hcl hs' hr ih =>
    exact fun _ => .pc b o cs off vals hcl hs' fun k hk => Rep.move (X := X) (Y := { X with live := (· ∈ hs), L := L', cap := cap' }) (fun _ _ h => h) (fun _ _ _ => rfl) (hr k hk) ((cleans_iff _).1 hcl _ (List.getElem_mem _))
  | obj id off => exact fun _ => .obj id off
  | nilp => exact fun _ => .nilp
  | row h m len a c hl hm hk hc hcm hn hv => exact fun h => .row _ m len a c (by simpa [V.within] using h) (by show m ≤ L' _; rw [(hag _ hl).1]; exact hm) hk hc hcm hn (fun e => by show c = cap' _ ∧ (0 < cap' _ → _); rw [(hag _ hl).2]; exact hv (by have e : m = L' _ := e; rw [(hag _ hl).1] at e; exact e))
  | ow id off len cap ad h1 h2 h3 => exact fun _ => .ow id off len cap ad h1 h2 h3
  | arr a len c p ad _ h1 h2 h3 ih => exact fun h => .arr a len c p ad (ih (by simpa [V.within] using h)) h1 h2 h3

theorem Rep.drop {X : Lay} {hs : List Nat} {v : Value} {x : V} (h : Rep X v x) (hw : x.within hs = true) : Rep { X with live := (· ∈ hs) } v x :=
  Rep.drop' (L' := X.L) (cap' := X.cap) (fun _ _ => ⟨rfl, rfl⟩) h hw

theorem wfs_iff (xs : List V) : wfs xs ↔ ∀ x ∈ xs, x.wf := by
  induction xs with
  | nil => simp [wfs]
  | cons x xs ih => simp [wfs, ih]

theorem wf_of_cells {x : V} (h : ∀ y ∈ x.cells, y.wf) : x.wf := by
  cases x <;> first | (simp only [V.wf]; exact (wfs_iff _).2 h; done) | exact h _ (List.mem_singleton.2 rfl)

theorem wfs_of_flat {xs : List V} (h : ∀ k (h : k < (flat xs).length), ((flat xs)[k]).wf) : wfs xs := by
  refine (wfs_iff _).2 fun x hx => wf_of_cells fun y hy => ?_
  obtain ⟨k, hk, e⟩ := List.mem_iff_getElem.1 (show y ∈ flat xs from List.mem_flatMap.2 ⟨x, hx, hy⟩)
  rw [← e]; exact h k hk

theorem wfs_of_get {xs : List V} (h : ∀ k (h : k < xs.length), (xs[k]).wf) : wfs xs := by
  refine (wfs_iff _).2 fun x hx => ?_
  obtain ⟨k, hk, e⟩ := List.mem_iff_getElem.1 hx
  rw [← e]; exact h k hk

/-- What is so of a real value is in range. -/
theorem Rep.wf {X : Lay} {v : Value} {x : V} (h : Rep X v x) : x.wf := by
  induction h with
  | n k x h1 h2 => exact h2
  | z x h => exact h
  | s x h => exact h
  | sl0 a c => exact ⟨Nat.zero_le _, trivial⟩
  | sl b o c es xs vals hc hcm hcl hu hs _ ih => exact ⟨Nat.le_trans hc hcm, wfs_of_flat ih⟩
  | lit b o es xs vals hcm hcl hu hs _ ih => exact ⟨hcm, wfs_of_flat ih⟩
  | agg vs cs hz h1 _ ih => exact wfs_of_get fun k hk => ih k hk (by omega)
  | tup vs cs hz _ ih => exact wfs_of_get fun k hk => ih k hk (by omega)
  | fn f vs cs us ds h1 h2 _ _ i1 i2 => exact ⟨wfs_of_get fun k hk => i1 k hk (by omega), wfs_of_get fun k hk => i2 k hk (by omega)⟩
  | ifc t v x _ ih => exact ih
  | pc b o cs off vals hcl hs _ ih => exact wfs_of_get ih
  | ow id off len cap ad h1 h2 h3 => exact ⟨h1, h2⟩
  | _ => trivial
end Go.Proofs.Ytaojebdjkpdcdaa.I
