/- Lending: a function that is asked with lists may be asked with rows of their own, where it tells plain data. -/
import Derived.Test.YtaojebdjkpdcdaaEls
namespace Go.Proofs.Ytaojebdjkpdcdaa.I
open Go
set_option linter.unusedVariables false
set_option linter.unusedSimpArgs false

/-- A function that is gone through keeps a contract, if its body does. -/
theorem okR_of_body {P : Program} {cx : Nat → Cn → Cx} (C : ∀ l cy, COk P (cx l cy)) (hx : P.follows .mixedOrders = true) {f : FuncId} {fn : Func} {code : Code} (hf : P.funcs[f]? = some fn) (hb : fn.body = some code) (hn : (fn.name == "runtime.NumGoroutine") = false) (hg : ∀ l cy, okCode (cx l cy) code = true)
    (hy : ∀ l cy, (cx l cy).y = some (l, cy)) {rc : Cn → Cn}
    (h : ∀ l cy caps om (Q : V → Om → Prop), Mono cy → wfs caps → @rc cy caps om ⟨Q⟩ → body (cx l cy) fn code (.fn (.yield l) [] [] :: caps) om fun v om' => ∃ om'', OmKept om'' om' ∧ Q v om'') : OkR P f rc where
  run := run_of hf hb hn
  tells := fun l cy X om caps vs Q Y G hr hcl hc => by
    have hr' : RepL X (.func (.yield l) #[] #[] :: vs) (.fn (.yield l) [] [] :: caps) := .cons (.fn _ #[] [] #[] [] rfl rfl (fun k h => by simp at h) (fun k h => by simp at h)) hr
    have hY : ∀ l' c, (cx l cy).y = some (l', c) → YOk P ⟨X.w, X.S, om, []⟩ l' c := fun l' c e => by
      rw [hy] at e; injection e with e; injection e with e1 e2; subst e1 e2; exact Y
    have := (body_tells (C l cy) hx hf hb (hg l cy) hY G hr' (by simp [cleans, V.clean, hcl]) (h l cy caps om Q Y.mono hr.wfs hc)).less fun _ _ h => h
    have e : (#[.func (.yield l) #[] #[]] ++ vs.toArray : Array Value) = (.func (.yield l) #[] #[] :: vs).toArray := by apply Array.ext'; simp
    rw [e]; exact this

def fn3j {α β γ : Type} (A : Ty α) (B : Ty β) (D : Ty γ) (pre q r : α → β → γ → Prop) [∀ x y z, Decidable (q x y z)] [∀ x y z, Decidable (r x y z)] (f g h : α → β → γ → V) : Cn
  | [a, b, c], om, K => @so _ (A.dec a) ⟨fun x => @so _ (B.dec b) ⟨fun y => @so _ (D.dec c) ⟨fun z => pre x y z ∧ @spl (decide (q x y z)) ⟨K.k (f x y z) om⟩ ⟨@spl (decide (r x y z)) ⟨K.k (g x y z) om⟩ ⟨K.k (h x y z) om⟩⟩⟩⟩⟩
  | _, _, _ => False
attribute [go_sem] fn3j.eq_1
section
variable {α β γ : Type} {A : Ty α} {B : Ty β} {D : Ty γ} {pre q r : α → β → γ → Prop} [∀ x y z, Decidable (q x y z)] [∀ x y z, Decidable (r x y z)] {f g h : α → β → γ → V}
theorem fn3j_mono : Mono (fn3j A B D pre q r f g h) := by
  intro args om K K' hK h
  unfold fn3j at h ⊢
  split at h
  · exact mono_so (fun _ h => mono_so (fun _ h => mono_so (fun _ h => ⟨h.1, mono_spl (hK _ _) (mono_spl (hK _ _) (hK _ _)) h.2⟩) h) h) h
  · exact h.elim
theorem fn3j_quiet : Quiet (fn3j A B D pre q r f g h) := by
  intro args om K h
  unfold fn3j at h ⊢
  split at h
  · exact mono_so (fun _ h => mono_so (fun _ h => mono_so (fun _ h => ⟨h.1, mono_spl (fun g => ⟨.refl _, g⟩) (mono_spl (fun g => ⟨.refl _, g⟩) (fun g => ⟨.refl _, g⟩)) h.2⟩) h) h) h
  · exact h.elim
theorem ok_fn3j {P : Program} {n : FuncId} (o : Ok P n (fn3 A B D pre fun x y z => if q x y z then f x y z else if r x y z then g x y z else h x y z)) : Ok P n (fn3j A B D pre q r f g h) := by
  refine Ok.weak fn3j_mono (fun args om K hh => ?_) o
  unfold fn3j at hh
  unfold fn3
  split at hh
  · refine mono_so (fun x hh => mono_so (fun y hh => mono_so (fun z hh => ⟨hh.1, ?_⟩) hh) hh) hh
    show @C2.k V Om ⟨K⟩ (if q x y z then f x y z else if r x y z then g x y z else h x y z) _
    rcases Decidable.em (q x y z) with e | e
    · rw [if_pos e]; exact hh.2.1 (decide_eq_true e)
    · rw [if_neg e]
      have h2 := hh.2.2 (decide_eq_false e)
      rcases Decidable.em (r x y z) with e' | e'
      · rw [if_pos e']; exact h2.1 (decide_eq_true e')
      · rw [if_neg e']; exact h2.2 (decide_eq_false e')
  · exact hh.elim
end

/-- A contract that has nothing to do with objects. -/
def Pure (c : Cn) : Prop := ∀ args om om' (K : V → Om → Prop), @c args om ⟨K⟩ → @c args om' ⟨fun r o => o = om' ∧ K r om⟩

theorem fn1_pure {α : Type} {A : Ty α} {pre : α → Prop} {f : α → V} : Pure (fn1 A pre f) := by
  intro args om om' K h
  unfold fn1 at h ⊢
  split at h
  · exact mono_so (fun x h => ⟨h.1, rfl, h.2⟩) h
  · exact h.elim
theorem fn2_pure {α β : Type} {A : Ty α} {B : Ty β} {pre : α → β → Prop} {f : α → β → V} : Pure (fn2 A B pre f) := by
  intro args om om' K h
  unfold fn2 at h ⊢
  split at h
  · exact mono_so (fun x h => mono_so (fun y h => ⟨h.1, rfl, h.2⟩) h) h
  · exact h.elim
theorem fn3_pure {α β γ : Type} {A : Ty α} {B : Ty β} {C : Ty γ} {pre : α → β → γ → Prop} {f : α → β → γ → V} : Pure (fn3 A B C pre f) := by
  intro args om om' K h
  unfold fn3 at h ⊢
  split at h
  · exact mono_so (fun x h => mono_so (fun y h => mono_so (fun z h => ⟨h.1, rfl, h.2⟩) h) h) h
  · exact h.elim
theorem fn4_pure {α β γ δ : Type} {A : Ty α} {B : Ty β} {C : Ty γ} {D : Ty δ} {pre : α → β → γ → δ → Prop} {f : α → β → γ → δ → V} : Pure (fn4 A B C D pre f) := by
  intro args om om' K h
  unfold fn4 at h ⊢
  split at h
  · exact mono_so (fun x h => mono_so (fun y h => mono_so (fun z h => mono_so (fun w h => ⟨h.1, rfl, h.2⟩) h) h) h) h
  · exact h.elim

/-- Plain data: no place of memory is in it. -/
def V.plain1 : V → Bool
  | .b _ => true
  | .n _ _ => true
  | .z _ => true
  | _ => false
def V.plain : V → Bool
  | .tup vs => vs.all V.plain1
  | v => v.plain1

theorem Rep.plain1 {X Y : Lay} {v : Value} {x : V} (h : Rep X v x) (hp : x.plain1 = true) : Rep Y v x := by
  cases h <;> simp [V.plain1] at hp
  case b x => exact .b x
  case n k x h1 h2 => exact .n k x h1 h2
  case z x h => exact .z x h
theorem Rep.plain {X Y : Lay} {v : Value} {x : V} (h : Rep X v x) (hp : x.plain = true) : Rep Y v x := by
  cases h with
  | tup vs cs hz h =>
    refine .tup vs cs hz fun k h1 h2 => (h k h1 h2).plain1 ?_
    simp only [V.plain, List.all_eq_true] at hp
    exact hp _ (List.getElem_mem h1)
  | b x => exact .b x
  | n k x h1 h2 => exact .n k x h1 h2
  | z x h => exact .z x h
  | _ => simp [V.plain, V.plain1] at hp

/-- An argument, as it is lent. -/
def lent (om : Om) (x : V) : V :=
  match x with
  | .ow id off len _ => match om id with
    | some cs => if off + len ≤ cs.length ∧ uni 1 false ((cs.drop off).take len) = true then .sl ((cs.drop off).take len) else x
    | none => x
  | x => x
@[go_sem] theorem lent_ow (om : Om) (id off len cap : Nat) : lent om (.ow id off len cap) = match om id with
    | some cs => if off + len ≤ cs.length ∧ uni 1 false ((cs.drop off).take len) = true then .sl ((cs.drop off).take len) else .ow id off len cap
    | none => .ow id off len cap := rfl
@[go_sem] theorem lent_sl (om : Om) (xs : List V) : lent om (.sl xs) = .sl xs := rfl
@[go_sem] theorem lent_n (om : Om) (k : IntKind) (x : Nat) : lent om (.n k x) = .n k x := rfl
@[go_sem] theorem lent_z (om : Om) (x : Int) : lent om (.z x) = .z x := rfl
@[go_sem] theorem lent_b (om : Om) (x : Bool) : lent om (.b x) = .b x := rfl
@[go_sem] theorem lent_agg (om : Om) (x : List V) : lent om (.agg x) = .agg x := rfl
@[go_sem] theorem lent_fn (om : Om) (f : Fn) (x y : List V) : lent om (.fn f x y) = .fn f x y := rfl

def bor (c : Cn) : Cn := fun args om K => @c (args.map (lent om)) om ⟨fun r _ => r.plain = true ∧ K.k r om⟩

@[go_sem] theorem bor_eq (c : Cn) (args : List V) (om : Om) (K : C2 V Om) : @bor c args om K = @c (args.map (lent om)) om ⟨fun r _ => r.plain = true ∧ K.k r om⟩ := rfl

attribute [go_sem] V.plain.eq_1 V.plain1.eq_1 V.plain1.eq_2 V.plain1.eq_3
@[go_sem] theorem plain_b (x : Bool) : V.plain (.b x) = true := rfl
@[go_sem] theorem plain_n (k : IntKind) (x : Nat) : V.plain (.n k x) = true := rfl
@[go_sem] theorem plain_z (x : Int) : V.plain (.z x) = true := rfl

theorem bor_mono {c : Cn} (h : Mono c) : Mono (bor c) := fun args om K K' hK hh => h _ om _ _ (fun r _ h => ⟨h.1, hK _ _ h.2⟩) hh
theorem bor_quiet {c : Cn} (h : Mono c) : Quiet (bor c) := fun args om K hh => h _ om _ _ (fun r _ h => ⟨h.1, .refl _, h.2⟩) hh

/-- All cells of objects, as if they were stable. -/
def Lay.lend (X : Lay) (om : Om) : Lay := { X with S := fun b o => X.S b o ∨ ∃ cs, om b = some cs ∧ o < cs.length }

theorem lent_rep {X : Lay} {om : Om} (G : Good X om) {v : Value} {x : V} (h : Rep X v x) (hc : x.clean = true) : Rep (X.lend om) v (lent om x) ∧ (lent om x).clean = true := by
  have le : X.Le (X.lend om) := ⟨fun _ _ h => .inl h, fun _ _ _ => rfl, fun _ h => h, fun _ _ => .inl ⟨rfl, rfl, rfl⟩⟩
  have base : Rep (X.lend om) v x ∧ x.clean = true := ⟨h.mono le, hc⟩
  unfold lent
  split
  · rename_i id off len cap
    split
    · rename_i cs hcs
      split
      · rename_i hh
        obtain ⟨h1, h2⟩ := hh
        have ht := G.ob id cs hcs
        obtain ⟨cur, ty, c1, c2, c3, c4⟩ := ht.cells
        refine ⟨?_, rfl⟩
        have hlen : ((cs.drop off).take len).length = len := by simp; omega
        cases h with
        | ow _ _ _ _ ad q1 q2 q3 =>
        by_cases e : len = 0
        · subst e; simp only [List.take_zero]; exact .sl0 _ _
        · have := q3 (by omega)
          subst this
          have hf : Fixed (X.lend om) id 0 cs := by
            refine ⟨fun k => cur.getD k undef, fun k hk => ?_, fun k hk => ?_⟩
            · have hk' : k < cur.size := by omega
              have e : cur.getD k undef = cur[k] := by simp [Array.getD, hk']
              simp only [e]
              refine ⟨.inr ⟨cs, hcs, by omega⟩, ?_, (c4 k hk hk').2⟩
              simp only [Lay.at, Lay.lend, Nat.zero_add]
              simp [World.cell?, c1, hk']
            · have hk' : k < cur.size := by omega
              have e : cur.getD k undef = cur[k] := by simp [Array.getD, hk']
              simp only [e]
              exact ((c4 k hk hk').1).mono le
          have hs := hf.sub off len
          rw [Nat.zero_add] at hs
          rw [← flat_one h2] at hs
          have := Rep.sl_fixed (c := cap) (by omega) q2 (cleans_take _ (cleans_drop _ ht.cl)) (uni_len h2) hs
          rwa [hlen] at this
      · exact base
    · exact base
  · exact base

theorem lent_reps {X : Lay} {om : Om} (G : Good X om) {vs : List Value} {xs : List V} (h : RepL X vs xs) (hc : cleans xs = true) : RepL (X.lend om) vs (xs.map (lent om)) ∧ cleans (xs.map (lent om)) = true := by
  induction h with
  | nil => exact ⟨.nil, rfl⟩
  | cons h _ ih =>
    simp only [cleans, Bool.and_eq_true] at hc
    obtain ⟨h1, h2⟩ := lent_rep G h hc.1
    obtain ⟨h3, h4⟩ := ih hc.2
    exact ⟨.cons h1 h3, by simp [cleans, h2, h4]⟩

theorem ok_bor {P : Program} {f : FuncId} {c : Cn} (h : Ok P f c) (hp : Pure c) : Ok P f (bor c) where
  mono := bor_mono h.mono
  run := h.run
  tells := by
    intro X om args vs Q G hr hcl hc
    obtain ⟨h1, h2⟩ := lent_reps G hr hcl
    have hc' := hp _ _ (fun _ => none) _ hc
    have G' : Good (X.lend om) (fun _ => none) := by
      refine ⟨fun id cs e => (by cases e), fun b o hs => ?_⟩
      rcases hs with hs | ⟨cs, hcs, _⟩
      · exact G.sb b o hs
      · obtain ⟨cur, ty, c1, _⟩ := (G.ob b cs hcs).cells
        exact (Array.getElem?_eq_some_iff.1 c1).1
    refine Calls.mono (h.tells (X.lend om) (fun _ => none) _ vs _ G' h1 h2 hc') ?_
    rintro e w' ⟨v, Y, r, om', rfl, rfl, ⟨rfl, hpl, hQ⟩, hrep, _, hk⟩
    have le : X.Le { Y with S := X.S, live := X.live, j := X.j, cap := X.cap, L := X.L } := ⟨fun _ _ h => h, fun b o hs => World.cell?_of_block (hk.fb b (G.sb b o hs) rfl), fun _ h => h, fun _ _ => .inl ⟨rfl, rfl, rfl⟩⟩
    have blk : ∀ id cs, om id = some cs → Y.w.heap[id]? = X.w.heap[id]? := fun id cs hcs => by
      obtain ⟨cur, ty, c1, _⟩ := (G.ob id cs hcs).cells
      exact hk.fb id (Array.getElem?_eq_some_iff.1 c1).1 rfl
    refine ⟨v, { Y with S := X.S, live := X.live, j := X.j, cap := X.cap, L := X.L }, r, om, rfl, rfl, hQ, hrep.plain hpl, ?_, ?_⟩
    · cases r <;> simp [V.plain, V.plain1] at hpl <;> try rfl
      simp only [V.clean]
      refine (cleans_iff _).2 fun x hx => ?_
      have := hpl x hx
      cases x <;> simp [V.plain1] at this <;> rfl
    · exact ⟨fun id cs hcs => (G.ob id cs hcs).mono le (blk id cs hcs) (G.ob id cs hcs).S, fun b o hs => Nat.lt_of_lt_of_le (G.sb b o hs) hk.fn.size, hk.fn, fun b hb _ => hk.fb b hb rfl, fun _ _ h => h, fun _ _ h _ => h, fun _ h _ => h⟩
@[go_sem] theorem fillIn_nil (l : List V) : fillIn l [] [] = l := rfl
@[go_sem] theorem flat_els' {α : Type} (e : α → V) [c : Cell1 e] (xs : List α) : flat (els e xs) = els e xs := flat_one (els_uni e xs)
theorem OmKept.over {om : Om} {i : Nat} {cs : List V} (h : om i = none) (j : Nat) (ds : List V) : OmKept (om.put j ds) ((om.put i cs).put j ds) := fun k es e => by
  simp only [Om.put] at e ⊢
  split at e
  · rename_i e'; rw [if_pos e']; exact e
  · rename_i e'; rw [if_neg e']
    split
    · rename_i e''; subst e''; rw [h] at e; cases e
    · exact e
theorem OmKept.del {om : Om} {i : Nat} {cs : List V} (h : om i = none) : OmKept om ((om.put i cs).del i) := fun k es e => by
  simp only [Om.put, Om.del]
  split
  · rename_i e'; subst e'; rw [h] at e; cases e
  · exact e

theorem OmKept.delr {om X : Om} {id : Nat} (h : om id = none) (g : OmKept om X) : OmKept om (X.del id) := fun k es e => by
  simp only [Om.del]
  split
  · rename_i e'; subst e'; rw [h] at e; cases e
  · exact g k es e
end Go.Proofs.Ytaojebdjkpdcdaa.I
