/- The walk of FnNearestGrid: it returns true. Condition: at most 2^20 bytes. -/
import Derived.Test.YtgnbnedjocolcaaGrid
import Derived.Test.YtgnbnedjocolcaaDrawG
import Derived.Test.YtgnbnedjocolcaaAlive
namespace Go.Proofs.Ytgnbnedjocolcaa.fnNearestGrid
set_option linter.unusedVariables false
open Go.RowKit
set_option linter.unusedSimpArgs false
theorem near_ok {t g : Int} (h1 : 0 ≤ t ∧ t ≤ 50000) (h2 : 1 ≤ g ∧ g ≤ 768) : rnd t g % g = 0 ∧ 2 * (rnd t g - t) ≤ g ∧ -2 * (rnd t g - t) < g ∧ rnd (rnd t g) g = rnd t g := by
  have hp : 0 < 2 * g := by omega
  have a1 : (2 * t + g) / (2 * g) * (2 * g) ≤ 2 * t + g := Int.ediv_mul_le _ (by omega)
  have a2 : 2 * t + g < ((2 * t + g) / (2 * g) + 1) * (2 * g) := Int.lt_ediv_add_one_mul_self _ hp
  have e1 : (2 * t + g) / (2 * g) * (2 * g) = 2 * rnd t g := by unfold rnd; rw [Int.mul_left_comm]
  rw [Int.add_mul, e1] at a2
  rw [e1] at a1
  refine ⟨by unfold rnd; exact Int.mul_emod_left _ _, by omega, by omega, ?_⟩
  generalize hq : rnd t g = n at *
  have hn : n = (2 * t + g) / (2 * g) * g := by rw [← hq]; rfl
  generalize (2 * t + g) / (2 * g) = q at *
  have e2 : 2 * n = q * (2 * g) := by omega
  have : (2 * n + g) / (2 * g) = q := by
    rw [e2, Int.add_comm, Int.add_mul_ediv_right _ _ (by omega), Int.ediv_eq_zero_of_lt (by omega) (by omega)]
    omega
  unfold rnd
  rw [this, hn]
set_option maxHeartbeats 2000000 in
theorem core (w : World) (A_z : Option Addr) (c_z : Nat) (z : List Int) (r_z : RdY w w.heap.size A_z z) (f_z : WfY z) (k_z : z.length ≤ c_z) (hbig : z.length ≤ 1048576) :
    Calls Try.prog 3 #[.slice A_z z.length c_z] w (RetB w true) := by
  have hi1 : (z.length : Int) ≤ 1048576 := by omega
  go_enter Try.func3, Try.ntmps3
  go_wp2_with fail
  refine (spec_DrawNearestGrid A_z c_z z w r_z f_z hbig k_z).mono ?_
  rintro e w1 ⟨t, g, rfl, ht, hg, b1⟩
  have HB := Lib.hid b1; clear b1 r_z f_z
  by_cases hin : inR t 0 50000 = true ∧ inR g 1 768 = true
  case neg =>
    have HV : Hid (ngL t g = -1) := by unfold Hid; unfold ngL; rw [if_neg hin]
    clear hin
    go_wp2_with fail
    refine (impl_NearestGrid _ _ _).mono ?_; rw [HV.out]; rintro e w2 ⟨rfl, rfl⟩
    go_wp2_with fail
    refine (spec_NearestGrid _ _ _).mono ?_; rw [HV.out]; rintro e w3 ⟨rfl, rfl⟩
    go_wp2_with fail
    refine (laws_alive _).mono ?_; rintro e w4 ⟨rfl, b4⟩
    have HB4 := Lib.hid (HB.out.trans (b4.mono HB.out.size)); clear b4
    go_wp2_with fail
    go_ret
    exact ⟨rfl, HB4.out⟩
  have h1 := inR_iff.1 hin.1
  have h2 := inR_iff.1 hin.2
  have hbd := rnd_bd h1 h2
  obtain ⟨n1, n2, n3, n4⟩ := near_ok h1 h2
  have HV : Hid (ngL t g = rnd t g) := by unfold Hid; unfold ngL; rw [if_pos hin]
  generalize hn : rnd t g = n at *
  have hn0 : 0 ≤ n := hbd.2.2.1
  have hn9 : n ≤ 50768 := hbd.2.2.2
  have HX : n ≤ 50000 → ngL n g = n := fun h => by unfold ngL; rw [if_pos ⟨inR_iff.2 ⟨hn0, h⟩, hin.2⟩, n4]
  clear hbd hin hn n4 ht hg
  have hg0 : g ≠ 0 := by omega
  have hm : n.tmod g = 0 := by rw [Int.tmod_eq_emod_of_nonneg hn0]; exact n1
  have t1 : decide (n < 0) = false := decide_eq_false (by omega)
  have t2 : decide (2 * (n - t) ≤ g) = true := decide_eq_true n2
  have t3 : decide (-2 * (n - t) < g) = true := decide_eq_true n3
  have t4 : decide (-(2 * (n - t)) < g) = true := decide_eq_true (by omega)
  by_cases hbg : 50000 < n
  · have t5 : decide (50000 < n) = true := decide_eq_true hbg
    clear HX
    go_wp2_with fail
    refine (impl_NearestGrid _ _ _).mono ?_; rw [HV.out]; rintro e w2 ⟨rfl, rfl⟩
    go_wp2_with fail
    refine (spec_NearestGrid _ _ _).mono ?_; rw [HV.out]; rintro e w3 ⟨rfl, rfl⟩
    go_wp2_with fail
    go_ret
    exact ⟨rfl, HB.out⟩
  · have t5 : decide (50000 < n) = false := decide_eq_false hbg
    have HZ := Lib.hid (HX (by omega)); clear HX
    go_wp2_with fail
    refine (impl_NearestGrid _ _ _).mono ?_; rw [HV.out]; rintro e w2 ⟨rfl, rfl⟩
    go_wp2_with fail
    refine (spec_NearestGrid _ _ _).mono ?_; rw [HV.out]; rintro e w3 ⟨rfl, rfl⟩
    go_wp2_with fail
    refine (impl_NearestGrid _ _ _).mono ?_; rw [HZ.out]; rintro e w4 ⟨rfl, rfl⟩
    go_wp2_with fail
    go_ret
    exact ⟨rfl, HB.out⟩
end Go.Proofs.Ytgnbnedjocolcaa.fnNearestGrid
