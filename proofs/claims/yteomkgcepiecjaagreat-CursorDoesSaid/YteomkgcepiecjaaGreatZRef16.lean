/- The reference of layer 16. -/
import Derived.Test.YteomkgcepiecjaaGreatZCur1
import Derived.Test.YteomkgcepiecjaaGreatZRef13b
import Derived.Test.YteomkgcepiecjaaGreatZRef01b
namespace Go.Proofs.YteomkgcepiecjaaGreat.I
open Go
open Nat renaming reduceEqDiff → kn1, reduceBEq → kn2, reducePow → kn3, reduceMod → kn4, reduceAdd → kn5, reduceSub → kn6, reduceMul → kn7, reduceDiv → kn8, reduceLeDiff → kn9, reduceLT → kn0, zero_lt_one → kq1, zero_add → kq2, zero_le → kq3, le_refl → kq4
open Int renaming reduceToNat → kz1, reduceAdd → kz2, reduceSub → kz3, reduceMul → kz4, reduceDiv → kz5, reduceMod → kz6, reduceLE → kz7, reduceLT → kz8, reduceNeg → kz9, reduceEq → kz0
set_option maxRecDepth 10000
set_option linter.unusedSimpArgs false
set_option linter.unusedVariables false
structure RC where
  s : GS
  a : Nat
  b : Int
  l : Nat
def rcC (r : RC) : List V := [.z r.s.kind, .n .u64 r.s.mix, .n .u64 r.s.x.a, .n .u64 r.s.x.b, .n .u64 r.s.x.c, .n .u64 r.s.x.d, .n .u64 (r.s.p.a / 18446744073709551616), .n .u64 (r.s.p.a % 18446744073709551616), .n .u64 (r.s.p.b / 18446744073709551616), .n .u64 (r.s.p.b % 18446744073709551616), .n .u64 (r.s.f.c / 18446744073709551616), .n .u64 (r.s.f.c % 18446744073709551616), .n .u32 r.s.f.k.a, .n .u32 r.s.f.k.b, .b r.s.f.h,
  .n .u64 (r.a / 18446744073709551616), .n .u64 (r.a % 18446744073709551616), .z r.b, .n .u64 (r.l / 18446744073709551616), .n .u64 (r.l % 18446744073709551616)]
theorem rcC_inj (r t : RC) (h : V.agg (rcC r) = V.agg (rcC t)) : r = t := by
  obtain ⟨s, a, b, l⟩ := r
  obtain ⟨s', a', b', l'⟩ := t
  simp only [rcC, V.agg.injEq, List.cons.injEq, V.n.injEq, V.z.injEq, V.b.injEq, true_and, and_true] at h
  obtain ⟨h1, h2, h3, h4, h5, h6, h7, h8, h9, h10, h11, h12, h13, h14, h15, h16, h17, h18, h19, h20⟩ := h
  obtain rfl : a = a' := by omega
  obtain rfl : l = l' := by omega
  obtain rfl : s = s' := vG_inj _ _ (by rw [vG_eq, vG_eq, h1, h2, h3, h4, h5, h6, h7, h8, h9, h10, h11, h12, h13, h14, h15])
  rw [h18]
noncomputable def tRC : Ty RC := Ty.by (fun r => .agg (rcC r)) rcC_inj
noncomputable def rcOf : Obj RC := fun _ cs => tRC.dec (.agg cs)
theorem rcOf_rc (id : Nat) (r : RC) : rcOf id (rcC r) = some r := tRC.h1 r
theorem rcOf_inv {id : Nat} {r : RC} {cs : List V} (h : rcOf id cs = some r) : cs = rcC r := by
  have := tRC.h2 _ _ h
  injection this
@[go_sem] theorem rcOf_all {id : Nat} {r : RC} [K : C (List V)] : @allO RC rcOf id r K = K.k (rcC r) := propext ⟨fun h => h _ (rcOf_rc id r), fun h cs e => by rw [rcOf_inv e]; exact h⟩
def RC.ok (r : RC) : Prop := r.a ≤ r.l ∧ r.l < 340282366920938463463374607431768211456 ∧ 0 ≤ r.b ∧ r.b ≤ 8
@[go_sem] noncomputable def c_ref16_Limit : Cn := fn1 tZ (fun _ => True) fun k => vW (if k = 1 then 9223372036854775808 else 170141183460469231731687303715884105728)
noncomputable def cx_ref16_Limit : Cx := { T := T, E := E, cs := [], sch := [], ob := [], qs := [] }
@[go_sem] theorem cx_ref16_Limit_e : cx_ref16_Limit.gs = none ∧ cx_ref16_Limit.md = 0 ∧ cx_ref16_Limit.T = T ∧ cx_ref16_Limit.E = E ∧ cx_ref16_Limit.cs = [] ∧ ∀ d, (cx_ref16_Limit.ob).contains d = false := ⟨rfl, rfl, rfl, rfl, rfl, fun _ => rfl⟩
theorem cok_ref16_Limit : COk Tryz.prog (cx_ref16_Limit) := cok_of rfl (.nil) (.nil) (.nil)
theorem ok_ref16_Limit : Ok Tryz.prog 19 c_ref16_Limit := by
  refine ok_fn1 cok_ref16_Limit mixed Tryz.func19 rfl (by kernel_rfl) (by kernel_rfl) rfl ?_
  intro k om hw _
  by_cases h : k = 1
  · have h' := eq_true h
    simp only [go_sem, Tryz.f19, kn1, kn2, kn3, kn4, kn5, kn6, kn7, kn8, kn9, kz1, kz2, kz3, kz4, kz5, kz6, kz7, kz8, kz9, kz0, reduceCtorEq, String.reduceEq, kn0, kq1, kq2, kq3, kq4, Int.toNat_natCast, h']
  · have h' := eq_false h
    simp only [go_sem, Tryz.f19, kn1, kn2, kn3, kn4, kn5, kn6, kn7, kn8, kn9, kz1, kz2, kz3, kz4, kz5, kz6, kz7, kz8, kz9, kz0, reduceCtorEq, String.reduceEq, kn0, kq1, kq2, kq3, kq4, Int.toNat_natCast, h']
@[go_sem] noncomputable def c_ref16_Cursor_Left : Cn := om0 rcOf (fun r => r.ok) fun r => vW (r.l - r.a)
noncomputable def cx_ref16_Cursor_Left : Cx := { T := T, E := E, cs := [(18, c_ref01_Sub)], sch := [(1, false, .take 0 (.take 1 (.take 2 (.take 3 (.take 4 (.take 5 (.take 6 (.take 7 (.alt 8 (.take 9 (.take 10 (.take 11 (.alt 12 (.alt 13 (.take 14 (.done)) .no) .no)))) (.alt 12 (.alt 8 (.take 9 (.take 10 (.take 11 (.alt 13 (.take 14 (.done)) .no)))) .no) (.no)))))))))))], ob := [], qs := [18] }
@[go_sem] theorem cx_ref16_Cursor_Left_e : cx_ref16_Cursor_Left.gs = none ∧ cx_ref16_Cursor_Left.md = 0 ∧ cx_ref16_Cursor_Left.T = T ∧ cx_ref16_Cursor_Left.E = E ∧ cx_ref16_Cursor_Left.cs = [(18, c_ref01_Sub)] ∧ cx_ref16_Cursor_Left.sch = [(1, false, .take 0 (.take 1 (.take 2 (.take 3 (.take 4 (.take 5 (.take 6 (.take 7 (.alt 8 (.take 9 (.take 10 (.take 11 (.alt 12 (.alt 13 (.take 14 (.done)) .no) .no)))) (.alt 12 (.alt 8 (.take 9 (.take 10 (.take 11 (.alt 13 (.take 14 (.done)) .no)))) .no) (.no)))))))))))] ∧ ∀ d, (cx_ref16_Cursor_Left.ob).contains d = false := ⟨rfl, rfl, rfl, rfl, rfl, rfl, fun _ => rfl⟩
theorem cok_ref16_Cursor_Left : COk Tryz.prog (cx_ref16_Cursor_Left) := cok_of rfl (.cons ok_ref01_Sub (.nil)) (.cons (fun _ => fn2_quiet) (.nil)) (.nil)
theorem ok_ref16_Cursor_Left : Ok Tryz.prog 84 c_ref16_Cursor_Left := by
  refine ok_om0 cok_ref16_Cursor_Left mixed Tryz.func84 rfl (by kernel_rfl) (by kernel_rfl) rfl ?_
  intro r id om cs h1 h2 ⟨p1, p2, p3, p4⟩
  obtain rfl := rcOf_inv h2
  have e : (r.l + 340282366920938463463374607431768211456 - r.a) % 340282366920938463463374607431768211456 = r.l - r.a := by omega
  unfold rcC at h1
  simp only [go_sem, Tryz.f84, kn1, kn2, kn3, kn4, kn5, kn6, kn7, kn8, kn9, kz1, kz2, kz3, kz4, kz5, kz6, kz7, kz8, kz9, kz0, reduceCtorEq, String.reduceEq, kn0, kq1, kq2, kq3, kq4, Int.toNat_natCast, h1, e]
def RC.goes (r : RC) (n : Nat) : RC := ⟨gst r.s n, r.a + n, r.b, r.l⟩
@[go_sem] noncomputable def c_ref16_Cursor_goes : Cn := oc1 rcOf tZ (fun r n => (0 ≤ n ∧ n ≤ 1000) ∧ r.a + n.toNat < 340282366920938463463374607431768211456) (fun _ _ => True) (fun _ _ => .tup []) (fun _ _ => .tup []) fun r n => r.goes n.toNat
noncomputable def cx_ref16_Cursor_goes : Cx := { T := T, E := E, cs := [(20, c_ref13_Jump), (49, c_ref01_Add)], sch := [], ob := [], qs := [20, 49] }
@[go_sem] theorem cx_ref16_Cursor_goes_e : cx_ref16_Cursor_goes.gs = none ∧ cx_ref16_Cursor_goes.md = 0 ∧ cx_ref16_Cursor_goes.T = T ∧ cx_ref16_Cursor_goes.E = E ∧ cx_ref16_Cursor_goes.cs = [(20, c_ref13_Jump), (49, c_ref01_Add)] ∧ ∀ d, (cx_ref16_Cursor_goes.ob).contains d = false := ⟨rfl, rfl, rfl, rfl, rfl, fun _ => rfl⟩
theorem cok_ref16_Cursor_goes : COk Tryz.prog (cx_ref16_Cursor_goes) := cok_of rfl (.cons ok_ref13_Jump (.cons ok_ref01_Add (.nil))) (.cons (fun _ => fn2_quiet) (.cons (fun _ => fn2_quiet) (.nil))) (.nil)
theorem ok_ref16_Cursor_goes : Ok Tryz.prog 86 c_ref16_Cursor_goes := by
  refine ok_oc1 cok_ref16_Cursor_goes mixed Tryz.func86 rfl (by kernel_rfl) (by kernel_rfl) rfl ?_ ?_
  · intro r n id om cs h1 h2 hw ⟨⟨p1, p2⟩, p3⟩ _
    obtain rfl := rcOf_inv h2
    obtain ⟨n, rfl⟩ := Int.eq_ofNat_of_zero_le p1
    have p3' : r.a + n < 340282366920938463463374607431768211456 := p3
    have e1 : ((n : Int) % 18446744073709551616).toNat = n := by omega
    have e2 : (r.a + n) % 340282366920938463463374607431768211456 = r.a + n := Nat.mod_eq_of_lt p3'
    have dn := tW_lit (l := n) (by omega)
    have fin := rcOf_rc id (r.goes n)
    unfold rcC RC.goes at fin
    unfold rcC at h1
    simp only [go_sem, Tryz.f86, kn1, kn2, kn3, kn4, kn5, kn6, kn7, kn8, kn9, kz1, kz2, kz3, kz4, kz5, kz6, kz7, kz8, kz9, kz0, reduceCtorEq, String.reduceEq, kn0, kq1, kq2, kq3, kq4, Int.toNat_natCast, h1, e1, e2, dn]
    intros
    exact .one fin
  · intro r n id om cs h1 h2 hw _ h
    exact absurd trivial h
theorem rcOf_b (id : Nat) (r : RC) (b : Int) : rcOf id (rcC ⟨r.s, r.a, b, r.l⟩) = some ⟨r.s, r.a, b, r.l⟩ := rcOf_rc id _
def RC.many (r : RC) : Nat := min 8 (r.l - r.a)
def RC.next (r : RC) : RC := ⟨gst r.s 1, r.a + 1, (if r.b = 0 then (r.many : Int) else r.b) - 1, r.l⟩
@[go_sem] noncomputable def c_ref16_Cursor_Next : Cn := oc0 rcOf (fun r => r.ok) (fun r => r.a < r.l) (fun r => .tup [.n .u64 (gword r.s), .z 0]) (fun _ => .tup [.n .u64 0, .z 10]) RC.next
noncomputable def cx_ref16_Cursor_Next : Cx := { T := T, E := E, cs := [(50, c_ref01_Cmp), (84, c_ref16_Cursor_Left), (85, c_ref13_Word), (86, c_ref16_Cursor_goes)], sch := [], ob := [], qs := [50, 84, 85] }
@[go_sem] theorem cx_ref16_Cursor_Next_e : cx_ref16_Cursor_Next.gs = none ∧ cx_ref16_Cursor_Next.md = 0 ∧ cx_ref16_Cursor_Next.T = T ∧ cx_ref16_Cursor_Next.E = E ∧ cx_ref16_Cursor_Next.cs = [(50, c_ref01_Cmp), (84, c_ref16_Cursor_Left), (85, c_ref13_Word), (86, c_ref16_Cursor_goes)] ∧ ∀ d, (cx_ref16_Cursor_Next.ob).contains d = false := ⟨rfl, rfl, rfl, rfl, rfl, fun _ => rfl⟩
theorem cok_ref16_Cursor_Next : COk Tryz.prog (cx_ref16_Cursor_Next) := cok_of rfl (.cons ok_ref01_Cmp (.cons ok_ref16_Cursor_Left (.cons ok_ref13_Word (.cons ok_ref16_Cursor_goes (.nil))))) (.cons (fun _ => fn2_quiet) (.cons (fun _ => om0_quiet) (.cons (fun _ => fn1_quiet) (.cons (fun h => absurd h (by decide)) (.nil))))) (.nil)
theorem ok_ref16_Cursor_Next : Ok Tryz.prog 24 c_ref16_Cursor_Next := by
  refine ok_oc0 cok_ref16_Cursor_Next mixed Tryz.func24 rfl (by kernel_rfl) (by kernel_rfl) rfl ?_ ?_
  · intro r id om cs h1 h2 hok h4
    obtain rfl := rcOf_inv h2
    have nz : ((r.l - r.a) / 18446744073709551616 = 0 ∧ (r.l - r.a) % 18446744073709551616 = 0) = False := eq_false (by obtain ⟨p1, p2, p3, p4⟩ := hok; omega)
    have ok : ∀ b : Int, 0 ≤ b → b ≤ 8 → ((⟨r.s, r.a, b, r.l⟩ : RC).ok = True) := fun b g1 g2 => eq_true ⟨hok.1, hok.2.1, g1, g2⟩
    have fx : ∀ b, _ := rcOf_b id r
    have g0 : gst r.s 1 = gst r.s 1 := rfl
    have hok' := eq_true hok
    have lim : r.a + (1 : Int).toNat < 340282366920938463463374607431768211456 := by have := hok.2.1; show r.a + 1 < _; omega
    have d8 := tW_lit (l := 8) (by omega)
    simp only [rcC] at h1 h2 fx
    have en : ∀ B : Int, B = (if r.b = 0 then (r.many : Int) else r.b) - 1 → (⟨r.s, r.a, B, r.l⟩ : RC).goes 1 = r.next := fun B e => by unfold RC.next; rw [← e]; rfl
    by_cases c0 : r.b = 0
    · have ok8 := ok 8 (by omega) (by omega)
      have ok0 := ok 0 (by omega) (by omega)
      rw [if_pos c0] at en
      by_cases c8 : r.l - r.a < 8
      · have c8' := eq_true c8
        have e1 : (r.l - r.a) % 18446744073709551616 = r.l - r.a := by omega
        have dn := tW_decm e1
        have nz' : ((r.l - r.a) / 18446744073709551616 = 0 ∧ r.l - r.a = 0) = False := eq_false (by omega)
        have em : (r.many : Int) = ((r.l - r.a : Nat) : Int) := by unfold RC.many; omega
        have ok9 := ok ((r.l - r.a : Nat) : Int) (by omega) (by omega)
        simp only [go_sem, Tryz.f24, kn1, kn2, kn3, kn4, kn5, kn6, kn7, kn8, kn9, kz1, kz2, kz3, kz4, kz5, kz6, kz7, kz8, kz9, kz0, reduceCtorEq, String.reduceEq, kn0, kq1, kq2, kq3, kq4, Int.toNat_natCast, h1, h2, c0, nz, d8, cmpN_lt, c8', fx, ok8, ok0, hok', lim, e1, dn, nz', ok9]
        have en := en _ (by rw [em])
        rw [en]
        intros
        refine ⟨by omega, fun _ => ⟨by omega, by omega, by first | exact .one (rcOf_rc _ _) | (rw [rcOf_all]; exact .one (rcOf_rc _ _))⟩⟩
      · have c8' := eq_false c8
        have em : r.many = 8 := by unfold RC.many; omega
        simp only [go_sem, Tryz.f24, kn1, kn2, kn3, kn4, kn5, kn6, kn7, kn8, kn9, kz1, kz2, kz3, kz4, kz5, kz6, kz7, kz8, kz9, kz0, reduceCtorEq, String.reduceEq, kn0, kq1, kq2, kq3, kq4, Int.toNat_natCast, h1, h2, c0, nz, d8, cmpN_lt, c8', fx, ok8, ok0, hok', lim]
        rw [en 7 (by rw [em]; rfl)]
        intros
        refine ⟨by omega, by first | exact .one (rcOf_rc _ _) | (rw [rcOf_all]; exact .one (rcOf_rc _ _))⟩
    · have c0' := eq_false c0
      simp only [go_sem, Tryz.f24, kn1, kn2, kn3, kn4, kn5, kn6, kn7, kn8, kn9, kz1, kz2, kz3, kz4, kz5, kz6, kz7, kz8, kz9, kz0, reduceCtorEq, String.reduceEq, kn0, kq1, kq2, kq3, kq4, Int.toNat_natCast, h1, h2, c0', nz, d8, fx, hok', lim]
      rw [if_neg c0] at en
      rw [en _ rfl]
      obtain ⟨_, _, p3, p4⟩ := hok
      intros
      refine ⟨by omega, by omega, by first | exact .one (rcOf_rc _ _) | (rw [rcOf_all]; exact .one (rcOf_rc _ _))⟩
  · intro r id om cs h1 h2 hok h4
    have ez : r.l - r.a = 0 := by have := hok.1; omega
    have hok' := eq_true hok
    simp only [go_sem, Tryz.f24, kn1, kn2, kn3, kn4, kn5, kn6, kn7, kn8, kn9, kz1, kz2, kz3, kz4, kz5, kz6, kz7, kz8, kz9, kz0, reduceCtorEq, String.reduceEq, kn0, kq1, kq2, kq3, kq4, Int.toNat_natCast, h1, h2, ez, hok']
def RC.skip (r : RC) (n : Nat) : RC := ⟨gst r.s n, r.a + n, if r.b - n < 0 then 0 else r.b - n, r.l⟩
@[go_sem] noncomputable def c_ref16_Cursor_Skip : Cn := oc1 rcOf tZ (fun r n => r.ok ∧ 0 ≤ n ∧ n ≤ 1000) (fun r n => r.a + n.toNat ≤ r.l) (fun _ _ => .z 0) (fun _ _ => .z 10) fun r n => r.skip n.toNat
noncomputable def cx_ref16_Cursor_Skip : Cx := { T := T, E := E, cs := [(50, c_ref01_Cmp), (84, c_ref16_Cursor_Left), (86, c_ref16_Cursor_goes)], sch := [], ob := [], qs := [50, 84] }
@[go_sem] theorem cx_ref16_Cursor_Skip_e : cx_ref16_Cursor_Skip.gs = none ∧ cx_ref16_Cursor_Skip.md = 0 ∧ cx_ref16_Cursor_Skip.T = T ∧ cx_ref16_Cursor_Skip.E = E ∧ cx_ref16_Cursor_Skip.cs = [(50, c_ref01_Cmp), (84, c_ref16_Cursor_Left), (86, c_ref16_Cursor_goes)] ∧ ∀ d, (cx_ref16_Cursor_Skip.ob).contains d = false := ⟨rfl, rfl, rfl, rfl, rfl, fun _ => rfl⟩
theorem cok_ref16_Cursor_Skip : COk Tryz.prog (cx_ref16_Cursor_Skip) := cok_of rfl (.cons ok_ref01_Cmp (.cons ok_ref16_Cursor_Left (.cons ok_ref16_Cursor_goes (.nil)))) (.cons (fun _ => fn2_quiet) (.cons (fun _ => om0_quiet) (.cons (fun h => absurd h (by decide)) (.nil)))) (.nil)
theorem ok_ref16_Cursor_Skip : Ok Tryz.prog 26 c_ref16_Cursor_Skip := by
  refine ok_oc1 cok_ref16_Cursor_Skip mixed Tryz.func26 rfl (by kernel_rfl) (by kernel_rfl) rfl ?_ ?_
  · intro r n id om cs h1 h2 hw ⟨hok, p1, p2⟩ h4
    obtain ⟨n, rfl⟩ := Int.eq_ofNat_of_zero_le p1
    have h4' : r.a + n ≤ r.l := h4
    have hok' := eq_true hok
    have e1 : ((n : Int) % 18446744073709551616).toNat = n := by omega
    have dn := tW_lit (l := n) (by omega)
    have q1 : (r.l - r.a < n) = False := eq_false (by omega)
    have q2 : (0 ≤ (n : Int)) = True := eq_true (by omega)
    have q3 : ((n : Int) ≤ 1000) = True := eq_true p2
    have q4 : (r.a + n < 340282366920938463463374607431768211456) = True := eq_true (by have := hok.2.1; omega)
    have fx : ∀ b, _ := fun b => rcOf_rc id ⟨gst r.s n, r.a + n, b, r.l⟩
    obtain ⟨_, _, p3, p4⟩ := hok
    simp only [rcC] at h1 h2 fx
    by_cases c : r.b - n < 0
    · have c' := eq_true c
      have es : (⟨gst r.s n, r.a + n, 0, r.l⟩ : RC) = r.skip n := by unfold RC.skip; rw [if_pos c]
      simp only [rcC, RC.goes, go_sem, Tryz.f26, kn1, kn2, kn3, kn4, kn5, kn6, kn7, kn8, kn9, kz1, kz2, kz3, kz4, kz5, kz6, kz7, kz8, kz9, kz0, reduceCtorEq, String.reduceEq, kn0, kq1, kq2, kq3, kq4, Int.toNat_natCast, h1, h2, hok', e1, dn, cmpN_gt, q1, q2, q3, q4, c']
      intros
      rw [← es]
      exact ⟨by omega, .one (fx _)⟩
    · have c' := eq_false c
      have es : (⟨gst r.s n, r.a + n, r.b - n, r.l⟩ : RC) = r.skip n := by unfold RC.skip; rw [if_neg c]
      simp only [rcC, RC.goes, go_sem, Tryz.f26, kn1, kn2, kn3, kn4, kn5, kn6, kn7, kn8, kn9, kz1, kz2, kz3, kz4, kz5, kz6, kz7, kz8, kz9, kz0, reduceCtorEq, String.reduceEq, kn0, kq1, kq2, kq3, kq4, Int.toNat_natCast, h1, h2, hok', e1, dn, cmpN_gt, q1, q2, q3, q4, c']
      intros
      rw [← es]
      exact ⟨by omega, .one (fx _)⟩
  · intro r n id om cs h1 h2 hw ⟨hok, p1, p2⟩ h4
    obtain ⟨n, rfl⟩ := Int.eq_ofNat_of_zero_le p1
    have h4' : ¬ r.a + n ≤ r.l := h4
    have hok' := eq_true hok
    have e1 : ((n : Int) % 18446744073709551616).toNat = n := by omega
    have dn := tW_lit (l := n) (by omega)
    have q1 : (r.l - r.a < n) = True := eq_true (by have := hok.1; omega)
    simp only [go_sem, Tryz.f26, kn1, kn2, kn3, kn4, kn5, kn6, kn7, kn8, kn9, kz1, kz2, kz3, kz4, kz5, kz6, kz7, kz8, kz9, kz0, reduceCtorEq, String.reduceEq, kn0, kq1, kq2, kq3, kq4, Int.toNat_natCast, h1, h2, hok', e1, dn, cmpN_gt, q1]
@[go_sem] noncomputable def c_ref16_Cursor_Buffered : Cn := om0 rcOf (fun r => r.ok) fun r => .sl (els (V.n .u64) (swords r.s r.b.toNat))
noncomputable def cx_ref16_Cursor_Buffered : Cx := { T := T, E := E, cs := [(79, c_ref13_Step), (85, c_ref13_Word)], sch := [], ob := [], qs := [79, 85] }
@[go_sem] theorem cx_ref16_Cursor_Buffered_e : cx_ref16_Cursor_Buffered.gs = none ∧ cx_ref16_Cursor_Buffered.md = 0 ∧ cx_ref16_Cursor_Buffered.T = T ∧ cx_ref16_Cursor_Buffered.E = E ∧ cx_ref16_Cursor_Buffered.cs = [(79, c_ref13_Step), (85, c_ref13_Word)] ∧ ∀ d, (cx_ref16_Cursor_Buffered.ob).contains d = false := ⟨rfl, rfl, rfl, rfl, rfl, fun _ => rfl⟩
theorem cok_ref16_Cursor_Buffered : COk Tryz.prog (cx_ref16_Cursor_Buffered) := cok_of rfl (.cons ok_ref13_Step (.cons ok_ref13_Word (.nil))) (.cons (fun _ => fn1_quiet) (.cons (fun _ => fn1_quiet) (.nil))) (.nil)
theorem ok_ref16_Cursor_Buffered : Ok Tryz.prog 30 c_ref16_Cursor_Buffered := by
  refine ok_om0 cok_ref16_Cursor_Buffered mixed Tryz.func30 rfl (by kernel_rfl) (by kernel_rfl) rfl ?_
  intro r id om cs h1 h2 ⟨_, _, p3, p4⟩
  obtain rfl := rcOf_inv h2
  obtain ⟨n, hn⟩ := Int.eq_ofNat_of_zero_le p3
  have hn' : r.b.toNat = n := by omega
  rw [hn']
  simp only [rcC, hn] at h1
  simp only [go_sem, Tryz.f30, kn1, kn2, kn3, kn4, kn5, kn6, kn7, kn8, kn9, kz1, kz2, kz3, kz4, kz5, kz6, kz7, kz8, kz9, kz0, reduceCtorEq, String.reduceEq, kn0, kq1, kq2, kq3, kq4, Int.toNat_natCast, h1]
  refine ⟨Nat, fun k => ⟨[.obj id 0, .u, .nils, .row 23 k k, .ref 4 1 15 0 0, .z k, .u, .u, .u, .u, .u, .u, .u, .u, .u, .u, .u, .u, .u, .u, .u, .u, .u, .u, .u, .u, .u], [(23, ⟨1, false, els (V.n .u64) (swords r.s k), false⟩), (4, ⟨15, true, [vG (gst r.s k)], false⟩)], om⟩, fun k => k ≤ n, fun k => n - k, ⟨0, Nat.zero_le _, ?_⟩, ?_⟩
  · simp only [go_sem, kn1, kn2, kn3, kn4, kn5, kn6, kn7, kn8, kn9, kz1, kz2, kz3, kz4, kz5, kz6, kz7, kz8, kz9, kz0, reduceCtorEq, String.reduceEq, kn0, kq1, kq2, kq3, kq4, Int.toNat_natCast, show swords r.s 0 = [] from rfl, show gst r.s 0 = r.s from rfl]
  · intro k hk
    by_cases c : k < n
    · have c' : ((k : Int) < (n : Int)) = True := eq_true (by omega)
      have e2 : gstep (gst r.s k) = gst r.s (k + 1) := rfl
      have e1 : swords r.s (k + 1) = swords r.s k ++ [gword (gst r.s k)] := by simp [swords, List.range_succ]
      simp only [go_sem, kn1, kn2, kn3, kn4, kn5, kn6, kn7, kn8, kn9, kz1, kz2, kz3, kz4, kz5, kz6, kz7, kz8, kz9, kz0, reduceCtorEq, String.reduceEq, kn0, kq1, kq2, kq3, kq4, Int.toNat_natCast, h1, c', ← e1, e2]
      refine fun _ => ⟨by omega, fun _ => ⟨by omega, k + 1, by omega, ?_, by omega⟩⟩
      refine ⟨⟨rfl, by omega⟩, rfl, ?_⟩
      repeat' (first | exact rfl | refine And.intro rfl ?_)
    · have c' : ((k : Int) < (n : Int)) = False := eq_false (by omega)
      have ek : k = n := by omega
      subst ek
      simp only [go_sem, kn1, kn2, kn3, kn4, kn5, kn6, kn7, kn8, kn9, kz1, kz2, kz3, kz4, kz5, kz6, kz7, kz8, kz9, kz0, reduceCtorEq, String.reduceEq, kn0, kq1, kq2, kq3, kq4, Int.toNat_natCast, h1, c']
      exact List.take_of_length_le (by simp)
end Go.Proofs.YteomkgcepiecjaaGreat.I
