/- What is read: loads, parts, addresses. -/
import Derived.Test.YtaojebdjkpdcdaaArith
import Derived.Laws.Cells
namespace Go.Proofs.Ytaojebdjkpdcdaa.I
open Go

theorem so_inv {α : Type} {x : Option α} {K : α → Prop} (h : @so α x ⟨K⟩) : ∃ a, x = some a ∧ K a := by
  cases x with
  | none => exact h.elim
  | some a => exact ⟨a, rfl, h⟩

theorem ti_inv {cx : Cx} {t : TypeId} {K : TI → Prop} (h : @ti cx t ⟨K⟩) : ∃ i, cx.T t = some i ∧ K i := so_inv h

theorem hasN_iff : ∀ (o n : Nat) (cs : List V), hasN o n cs = true ↔ o + n ≤ cs.length
  | 0, 0, _ => by simp [hasN]
  | 0, n + 1, [] => by simp [hasN]
  | 0, n + 1, c :: cs => by simp [hasN, hasN_iff 0 n cs]
  | o + 1, n, [] => by simp [hasN]
  | o + 1, n, c :: cs => by simp [hasN, hasN_iff o n cs]; omega

section
variable {P : Program}

theorem run_typeInfo' {t : TypeId} {i : TypeInfo} (h : P.info? t = some i) (w : World) : (typeInfo t).run P w = .ok i w := by simp [typeInfo, h]
theorem run_sizeOf' {t : TypeId} {i : TypeInfo} (h : P.info? t = some i) (w : World) : (sizeOf t).run P w = .ok i.size w := by simp [sizeOf, run_typeInfo' h]
theorem run_zeroValue' {t : TypeId} {i : TypeInfo} {z : Value} (h : P.info? t = some i) (hz : i.zero = some z) (w : World) : (zeroValue t).run P w = .ok z w := by
  simp [zeroValue, run_typeInfo' h, hz]

theorem TOk.size {t : TypeId} {i : TI} (h : TOk P t i) (w : World) : (sizeOf t).run P w = .ok i.size w := by
  obtain ⟨inf, z, d, h1, h2, _⟩ := h.ex
  rw [run_sizeOf' h1, h2]

theorem TOk.isAgg {t : TypeId} {i : TI} (h : TOk P t i) (w : World) : (Go.isAgg t).run P w = .ok i.isAgg w := by
  obtain ⟨inf, z, d, h1, h2, h3, h4, h5, h6, _⟩ := h.ex
  unfold TI.isAgg
  cases hk : i.k <;> simp only [hk, TK.fits] at h6
  case int => subst h6; simp [Go.isAgg, run_underlying h5]
  case bool => subst h6; simp [Go.isAgg, run_underlying h5]
  case slice => subst h6; simp [Go.isAgg, run_underlying h5]
  case struct => obtain ⟨F, rfl, _⟩ := h6; simp [Go.isAgg, run_underlying h5]
  case array => subst h6; simp [Go.isAgg, run_underlying h5]
  case ptr => subst h6; simp [Go.isAgg, run_underlying h5]
  case string => subst h6; simp [Go.isAgg, run_underlying h5]
  case other =>
    simp only [Go.isAgg, Sem.run_bind, run_underlying h5, Result.andThen_ok]
    split
    · rename_i F; exact absurd rfl (h6.1 F)
    · rename_i n e; exact absurd rfl (h6.2 n e)
    · rfl

/-- Cells that can be read. -/
def Readable (X : Lay) (b o : Nat) (cs : List V) : Prop :=
  ∃ vals : Nat → Value, ∀ k (h : k < cs.length), X.at b (o + k) = some (vals k) ∧ Rep X (vals k) cs[k] ∧ (vals k).oneCell' = true

theorem Fixed.readable {X : Lay} {b o : Nat} {cs : List V} (h : Fixed X b o cs) : Readable X b o cs :=
  let ⟨vals, h1, h2⟩ := h
  ⟨vals, fun k hk => ⟨(h1 k hk).2.1, h2 k hk, (h1 k hk).2.2⟩⟩

theorem Cells.readable {X : Lay} {b n : Nat} {cs : List V} (h : Cells X b n cs) : Readable X b 0 cs := by
  obtain ⟨cur, ty, h1, h2, h3, h4⟩ := h
  refine ⟨fun k => cur.getD k undef, fun k hk => ?_⟩
  have hk' : k < cur.size := by omega
  have e : cur.getD k undef = cur[k] := by simp [Array.getD, hk']
  simp only [e]
  exact ⟨by simp [Lay.at, World.cell?, h1, hk'], h4 k hk hk'⟩

theorem Readable.sub {X : Lay} {b o : Nat} {cs : List V} (h : Readable X b o cs) (d : Nat) (n : Nat) : Readable X b (o + d) ((cs.drop d).take n) := by
  obtain ⟨vals, h1⟩ := h
  refine ⟨fun k => vals (d + k), fun k hk => ?_⟩
  simp only [List.length_take, List.length_drop] at hk
  have := h1 (d + k) (by omega)
  rw [Nat.add_assoc]
  simpa using this

theorem add_off (b o k : Nat) : (⟨b, o, none⟩ : Addr).add k = ⟨b, o + k, none⟩ := by
  unfold Addr.add; split <;> simp_all

theorem loadVar_sound {X : Lay} {b o off : Nat} {cs : List V} {t : TypeId} {i : TI} {K : V → Prop} (hT : TOk P t i) (hr : Readable X b o cs) (h : @part i cs off ⟨K⟩) :
    ∃ r u, K r ∧ Rep X u r ∧ (loadVar t ⟨b, o + off, none⟩).run P X.w = .ok u X.w := by
  obtain ⟨vals, h1⟩ := hr
  unfold part at h
  obtain ⟨hn, h⟩ := h
  rw [hasN_iff] at hn
  cases ha : i.isAgg with
  | false =>
    simp only [ha] at h
    have hs := hT.sz ha
    have hk : off < cs.length := by omega
    refine ⟨_, vals off, h, ?_, ?_⟩
    · have e : cs.getD off .u = cs[off] := by simp [List.getD, hk]
      rw [e]; exact (h1 off hk).2.1
    · have e := (h1 off hk).1
      unfold Lay.at at e
      simp [loadVar, hT.isAgg, ha, e]
  | true =>
    simp only [ha] at h
    refine ⟨_, .agg ((List.range i.size).map fun k => vals (off + k)).toArray, h, ?_, ?_⟩
    · refine .agg _ _ (by simp; omega) (fun v hv => ?_) fun k hk hk' => ?_
      · simp only [List.mem_toArray, List.mem_map, List.mem_range] at hv
        obtain ⟨k, hk, rfl⟩ := hv
        exact (h1 (off + k) (by omega)).2.2
      · simp only [List.length_take, List.length_drop] at hk
        have := (h1 (off + k) (by omega)).2.1
        simpa using this
    · have hl := run_loadCells (P := P) X.w ⟨b, o + off, none⟩ i.size (fun k => vals (off + k)) (fun j hj => by
        have := (h1 (off + j) (by omega)).1
        rw [add_off, Nat.add_assoc]; exact this)
      simp [loadVar, hT.isAgg, ha, hT.size, hl]

theorem part_sound {X : Lay} {vs : Array Value} {off : Nat} {cs : List V} {t : TypeId} {i : TI} {K : V → Prop} (hT : TOk P t i) (hr : Rep X (.agg vs) (.agg cs)) (h : @part i cs off ⟨K⟩) :
    ∃ r u, K r ∧ Rep X u r ∧ (Go.part t vs off).run P X.w = .ok u X.w := by
  cases hr with
  | agg _ _ hz h0 h1 =>
    unfold part at h
    obtain ⟨hn, h⟩ := h
    rw [hasN_iff] at hn
    cases ha : i.isAgg with
    | false =>
      simp only [ha] at h
      have hs := hT.sz ha
      have hk : off < cs.length := by omega
      have hk' : off < vs.size := by omega
      refine ⟨_, vs[off], h, ?_, ?_⟩
      · have e : cs.getD off .u = cs[off] := by simp [List.getD, hk]
        rw [e]; exact h1 off hk hk'
      · simp [Go.part, hT.isAgg, ha, hk']
    | true =>
      simp only [ha] at h
      refine ⟨_, .agg (vs.extract off (off + i.size)), h, ?_, ?_⟩
      · refine .agg _ _ (by simp; omega) (fun v hv => ?_) fun k hk hk' => ?_
        · obtain ⟨k, hk, rfl⟩ := Array.mem_iff_getElem.1 hv
          simp only [Array.getElem_extract]
          exact h0 _ (Array.getElem_mem _)
        · simp only [List.length_take, List.length_drop] at hk
          have := h1 (off + k) (by omega) (by omega)
          simpa using this
      · simp [Go.part, hT.isAgg, ha, hT.size]
end
end Go.Proofs.Ytaojebdjkpdcdaa.I
