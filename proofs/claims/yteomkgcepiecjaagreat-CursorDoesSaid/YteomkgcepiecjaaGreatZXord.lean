/- The order of x by the rule is 2^128 or more: distinct numbers of steps lead to distinct states. -/
import Derived.Test.YteomkgcepiecjaaGreatZG2
import Derived.Test.YteomkgcepiecjaaGreatZXord2
import Derived.Test.YteomkgcepiecjaaGreatZXord3
namespace Go.Proofs.YteomkgcepiecjaaGreat.I
open Go
set_option linter.unusedSimpArgs false
set_option linter.unusedVariables false
theorem Z_all : Z 115792089237316195423570985008687907853269984665640564039457584007913129639935 := by
  have h := RP_irr.fermat (a := 2) (two_free 1)
  rw [bl_RP] at h
  exact h
theorem part_in {r M g : Nat} (hr : Pri r) (hM : ¬ Z M) (hg : Z g) (hd : g ∣ r * M) : r ∣ g := hr.dvd_of hd fun h => by
  obtain ⟨m, hm⟩ := h
  rw [hm] at hM
  exact hM (hg.mul m)
theorem Z_low {g : Nat} (hg : Z g) (hd : g ∣ 115792089237316195423570985008687907853269984665640564039457584007913129639935) : 340282366920938463463374607431768211455 ∣ g := by
  have d0 : 3 ∣ g := part_in (M := 38597363079105398474523661669562635951089994888546854679819194669304376546645) pri_3 nZ_3 hg hd
  have d1 : 5 ∣ g := part_in (M := 23158417847463239084714197001737581570653996933128112807891516801582625927987) pri_5 nZ_5 hg hd
  have d2 : 17 ∣ g := part_in (M := 6811299366900952671974763824040465167839410862684739061144563765171360567055) pri_17 nZ_17 hg hd
  have d3 : 257 ∣ g := part_in (M := 450552876409790643671482431940419874915447411150352389258589821042463539455) pri_257 nZ_257 hg hd
  have d4 : 641 ∣ g := part_in (M := 180642884925610289272341630278764286822574079041560942339247400948382417535) pri_641 nZ_641 hg hd
  have d5 : 65537 ∣ g := part_in (M := 1766820105243087041267848467410591083712559083657179364930612997358944255) pri_65537 nZ_65537 hg hd
  have d6 : 274177 ∣ g := part_in (M := 422326049367073807881663979869529201403728192611490256438204459192102655) pri_274177 nZ_274177 hg hd
  have d7 : 6700417 ∣ g := part_in (M := 17281325809619937896935516850471830014948321076977830490170624307101055) pri_6700417 nZ_6700417 hg hd
  have d8 : 67280421310721 ∣ g := part_in (M := 1721036922503113971692907638171526209875755521904893141463060735) P9_pri nZ_67280421310721 hg hd
  have e1 : 3 * 5 ∣ g := Nat.Coprime.mul_dvd_of_dvd_of_dvd (by decide +kernel) d0 d1
  rw [show 3 * 5 = 15 from rfl] at e1
  have e2 : 15 * 17 ∣ g := Nat.Coprime.mul_dvd_of_dvd_of_dvd (by decide +kernel) e1 d2
  rw [show 15 * 17 = 255 from rfl] at e2
  have e3 : 255 * 257 ∣ g := Nat.Coprime.mul_dvd_of_dvd_of_dvd (by decide +kernel) e2 d3
  rw [show 255 * 257 = 65535 from rfl] at e3
  have e4 : 65535 * 641 ∣ g := Nat.Coprime.mul_dvd_of_dvd_of_dvd (by decide +kernel) e3 d4
  rw [show 65535 * 641 = 42007935 from rfl] at e4
  have e5 : 42007935 * 65537 ∣ g := Nat.Coprime.mul_dvd_of_dvd_of_dvd (by decide +kernel) e4 d5
  rw [show 42007935 * 65537 = 2753074036095 from rfl] at e5
  have e6 : 2753074036095 * 274177 ∣ g := Nat.Coprime.mul_dvd_of_dvd_of_dvd (by decide +kernel) e5 d6
  rw [show 2753074036095 * 274177 = 754829579994418815 from rfl] at e6
  have e7 : 754829579994418815 * 6700417 ∣ g := Nat.Coprime.mul_dvd_of_dvd_of_dvd (by decide +kernel) e6 d7
  rw [show 754829579994418815 * 6700417 = 5057672949897463733145855 from rfl] at e7
  have e8 : 5057672949897463733145855 * 67280421310721 ∣ g := Nat.Coprime.mul_dvd_of_dvd_of_dvd (by decide +kernel) e7 d8
  exact e8
theorem not_Z_half : ¬ Z 340282366920938463463374607431768211455 := fun z => by
  have h : cg RP (cpw 2 (340282366920938463463374607431768211455 + 1)) 2 := by
    rw [cpw_add, cpw_one]
    have : cg RP (cm (cpw 2 340282366920938463463374607431768211455) 2) (cm 1 2) := cg_cm z (cg_refl _ _)
    rwa [cm_one_left] at this
  have e : sqn 2 RP 128 = 2 := by
    rw [sqn_cpw 2 RP_ne]
    exact rm_unique (by rw [bl_RP]; decide) (cg_symm h)
  rw [RP_half] at e
  exact absurd e (by decide)
theorem Z_none {k : Nat} (h0 : 0 < k) (hk : k < 340282366920938463463374607431768211456) : ¬ Z k := fun z => by
  have hg := z.gcd Z_all
  have hd : Nat.gcd k 115792089237316195423570985008687907853269984665640564039457584007913129639935 ∣ 115792089237316195423570985008687907853269984665640564039457584007913129639935 := Nat.gcd_dvd_right _ _
  have hgk : Nat.gcd k 115792089237316195423570985008687907853269984665640564039457584007913129639935 ≤ k := Nat.le_of_dvd h0 (Nat.gcd_dvd_left _ _)
  have g0 : 0 < Nat.gcd k 115792089237316195423570985008687907853269984665640564039457584007913129639935 := Nat.gcd_pos_of_pos_left _ h0
  generalize Nat.gcd k 115792089237316195423570985008687907853269984665640564039457584007913129639935 = g at *
  have := Nat.le_of_dvd g0 (Z_low hg hd)
  have e : g = 340282366920938463463374607431768211455 := by omega
  rw [e] at hg
  exact not_Z_half hg
theorem xst_lt {s : X4} (hs : s.wf) (h0 : s ≠ x0) {n m : Nat} (h : n < m) (hm : m < 340282366920938463463374607431768211456) : xst s n ≠ xst s m := fun e => by
  rw [← act_pow, ← act_pow, act_iff hs h0, ← cpw_two, ← cpw_two, show m = n + (m - n) by omega, cpw_add] at e
  have : cg RP (cm (cpw 2 n) 1) (cm (cpw 2 n) (cpw 2 (m - n))) := by rw [cm_one_right]; exact e
  exact Z_none (by omega) (by omega) (cg_symm (RP_irr.cancel (two_free n) this))
theorem xst_inj {s : X4} (hs : s.wf) (h0 : s ≠ x0) {n m : Nat} (hn : n < 340282366920938463463374607431768211456) (hm : m < 340282366920938463463374607431768211456) : xst s n = xst s m ↔ n = m := by
  refine ⟨fun e => ?_, fun e => by rw [e]⟩
  rcases Nat.lt_trichotomy n m with h | h | h
  · exact absurd e (xst_lt hs h0 h hm)
  · exact h
  · exact absurd e.symm (xst_lt hs h0 h hn)
end Go.Proofs.YteomkgcepiecjaaGreat.I
